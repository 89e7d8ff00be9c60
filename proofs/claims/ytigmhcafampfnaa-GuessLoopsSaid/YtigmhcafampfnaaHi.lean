/-
  Each operation's word is its own: read from it by the program and by the document. Printed by a program of the prover's own (wip/prt/words5.py).
-/
import Derived.Test.YtigmhcafampfnaaHh
set_option linter.unusedVariables false
set_option linter.unusedSimpArgs false
namespace Go.Proofs.Ytigmhcafampfnaa.PV
open Go Go.Ev

theorem hit1 {w : Int} (hW : W32 w) (hq : w % 128 = 55) : HitT w 1 (w / 128 % 32) (0) (0) (if w / 4096 < 524288 then w / 4096 * 4096 else w / 4096 * 4096 - 4294967296) (0) := by
  have hw := hW
  unfold W32 at hw
  have his : sallyportref3_Is0 1 (w / 128 % 32) (0) (0) (if w / 4096 < 524288 then w / 4096 * 4096 else w / 4096 * 4096 - 4294967296) (0) = true := is1 ⟨by omega, by omega⟩ ⟨by split <;> omega, by split <;> omega⟩ (by split <;> omega)
  refine ⟨his, ?_, ins1 hW hq, g1t hW (by decide +kernel), g2f (by decide +kernel), g3f (by decide +kernel), g4_U hW (by decide +kernel), g5f (by decide +kernel), cndU hW (by decide +kernel) hq (by decide +kernel), hq.trans (by decide +kernel)⟩
  rw [(enc1 his).1]
  split <;> omega
theorem hit2 {w : Int} (hW : W32 w) (hq : w % 128 = 23) : HitT w 2 (w / 128 % 32) (0) (0) (if w / 4096 < 524288 then w / 4096 * 4096 else w / 4096 * 4096 - 4294967296) (0) := by
  have hw := hW
  unfold W32 at hw
  have his : sallyportref3_Is0 2 (w / 128 % 32) (0) (0) (if w / 4096 < 524288 then w / 4096 * 4096 else w / 4096 * 4096 - 4294967296) (0) = true := is2 ⟨by omega, by omega⟩ ⟨by split <;> omega, by split <;> omega⟩ (by split <;> omega)
  refine ⟨his, ?_, ins2 hW hq, g1t hW (by decide +kernel), g2f (by decide +kernel), g3f (by decide +kernel), g4_U hW (by decide +kernel), g5f (by decide +kernel), cndU hW (by decide +kernel) hq (by decide +kernel), hq.trans (by decide +kernel)⟩
  rw [(enc2 his).1]
  split <;> omega
theorem hit3 {w : Int} (hW : W32 w) (hq : w % 128 = 111) : HitT w 3 (w / 128 % 32) (0) (0) (w / 4096 % 256 * 4096 + w / 1048576 % 2 * 2048 + w / 2097152 % 1024 * 2 - w / 2147483648 * 1048576) (0) := by
  have hw := hW
  unfold W32 at hw
  have his : sallyportref3_Is0 3 (w / 128 % 32) (0) (0) (w / 4096 % 256 * 4096 + w / 1048576 % 2 * 2048 + w / 2097152 % 1024 * 2 - w / 2147483648 * 1048576) (0) = true := is3 ⟨by omega, by omega⟩ ⟨by omega, by omega⟩ (by omega)
  refine ⟨his, ?_, ins3 hW hq, g1t hW (by decide +kernel), g2f (by decide +kernel), g3f (by decide +kernel), g4_J hW (by decide +kernel) (by decide +kernel), g5f (by decide +kernel), cndU hW (by decide +kernel) hq (by decide +kernel), hq.trans (by decide +kernel)⟩
  rw [(enc3 his).1]
  obtain ⟨a, ea⟩ : ∃ p, w / 2147483648 = p := ⟨_, rfl⟩
  obtain ⟨b, eb⟩ : ∃ p, w / 4096 % 256 = p := ⟨_, rfl⟩
  obtain ⟨c, ec⟩ : ∃ p, w / 1048576 % 2 = p := ⟨_, rfl⟩
  obtain ⟨d, ed⟩ : ∃ p, w / 2097152 % 1024 = p := ⟨_, rfl⟩
  rw [ea, eb, ec, ed]
  have ha : 0 ≤ a ∧ a < 2 := by omega
  have hb : 0 ≤ b ∧ b < 256 := by omega
  have hc : 0 ≤ c ∧ c < 2 := by omega
  have hd : 0 ≤ d ∧ d < 1024 := by omega
  obtain ⟨m, em⟩ : ∃ m, (b * 4096 + c * 2048 + d * 2 - a * 1048576) % 4294967296 = m := ⟨_, rfl⟩
  rw [em]
  have em' : m = b * 4096 + c * 2048 + d * 2 + a * 4293918720 := by clear ea eb ec ed his hw hq; omega
  clear em
  have q1 : m / 1048576 % 2 = a := by clear ea eb ec ed his hw hq; omega
  have q2 : m / 4096 % 256 = b := by clear ea eb ec ed his hw hq; omega
  have q3 : m / 2048 % 2 = c := by clear ea eb ec ed his hw hq; omega
  have q4 : m / 2 % 1024 = d := by clear ea eb ec ed his hw hq; omega
  rw [q1, q2, q3, q4]
  clear em' q1 q2 q3 q4 his
  omega
theorem hit4 {w : Int} (hW : W32 w) (hq : w % 128 = 103) (h3 : w / 4096 % 8 = 0) : HitT w 4 (w / 128 % 32) (w / 32768 % 32) (0) (if w / 1048576 < 2048 then w / 1048576 else w / 1048576 - 4096) (0) := by
  have hw := hW
  unfold W32 at hw
  have his : sallyportref3_Is0 4 (w / 128 % 32) (w / 32768 % 32) (0) (if w / 1048576 < 2048 then w / 1048576 else w / 1048576 - 4096) (0) = true := is4 ⟨by omega, by omega⟩ ⟨by omega, by omega⟩ ⟨by split <;> omega, by split <;> omega⟩ 
  refine ⟨his, ?_, ins4 hW hq h3, g1t hW (by decide +kernel), g2t hW (by decide +kernel), g3f (by decide +kernel), g4_I hW (by decide +kernel) (by decide +kernel) (by decide +kernel) (by decide +kernel) (by decide +kernel) (by decide +kernel) (by decide +kernel) (by decide +kernel), g5f (by decide +kernel), cnd hW (by decide +kernel) hq (by decide +kernel) h3, hq.trans (by decide +kernel)⟩
  rw [(enc4 his).1]
  split <;> omega
theorem hit5 {w : Int} (hW : W32 w) (hq : w % 128 = 99) (h3 : w / 4096 % 8 = 0) : HitT w 5 (0) (w / 32768 % 32) (w / 1048576 % 32) (w / 128 % 2 * 2048 + w / 33554432 % 64 * 32 + w / 256 % 16 * 2 - w / 2147483648 * 4096) (0) := by
  have hw := hW
  unfold W32 at hw
  have his : sallyportref3_Is0 5 (0) (w / 32768 % 32) (w / 1048576 % 32) (w / 128 % 2 * 2048 + w / 33554432 % 64 * 32 + w / 256 % 16 * 2 - w / 2147483648 * 4096) (0) = true := is5 ⟨by omega, by omega⟩ ⟨by omega, by omega⟩ ⟨by omega, by omega⟩ (by omega)
  refine ⟨his, ?_, ins5 hW hq h3, g1f (by decide +kernel), g2t hW (by decide +kernel), g3t hW (by decide +kernel), g4_B hW (by decide +kernel) (by decide +kernel) (by decide +kernel), g5f (by decide +kernel), cnd hW (by decide +kernel) hq (by decide +kernel) h3, hq.trans (by decide +kernel)⟩
  rw [(enc5 his).1]
  obtain ⟨a, ea⟩ : ∃ p, w / 2147483648 = p := ⟨_, rfl⟩
  obtain ⟨b, eb⟩ : ∃ p, w / 128 % 2 = p := ⟨_, rfl⟩
  obtain ⟨c, ec⟩ : ∃ p, w / 33554432 % 64 = p := ⟨_, rfl⟩
  obtain ⟨d, ed⟩ : ∃ p, w / 256 % 16 = p := ⟨_, rfl⟩
  rw [ea, eb, ec, ed]
  have ha : 0 ≤ a ∧ a < 2 := by omega
  have hb : 0 ≤ b ∧ b < 2 := by omega
  have hc : 0 ≤ c ∧ c < 64 := by omega
  have hd : 0 ≤ d ∧ d < 16 := by omega
  obtain ⟨m, em⟩ : ∃ m, (b * 2048 + c * 32 + d * 2 - a * 4096) % 4294967296 = m := ⟨_, rfl⟩
  rw [em]
  have em' : m = b * 2048 + c * 32 + d * 2 + a * 4294963200 := by clear ea eb ec ed his hw hq h3; omega
  clear em
  have q1 : m / 4096 % 2 = a := by clear ea eb ec ed his hw hq h3; omega
  have q2 : m / 2048 % 2 = b := by clear ea eb ec ed his hw hq h3; omega
  have q3 : m / 32 % 64 = c := by clear ea eb ec ed his hw hq h3; omega
  have q4 : m / 2 % 16 = d := by clear ea eb ec ed his hw hq h3; omega
  rw [q1, q2, q3, q4]
  clear em' q1 q2 q3 q4 his
  omega
theorem hit6 {w : Int} (hW : W32 w) (hq : w % 128 = 99) (h3 : w / 4096 % 8 = 1) : HitT w 6 (0) (w / 32768 % 32) (w / 1048576 % 32) (w / 128 % 2 * 2048 + w / 33554432 % 64 * 32 + w / 256 % 16 * 2 - w / 2147483648 * 4096) (0) := by
  have hw := hW
  unfold W32 at hw
  have his : sallyportref3_Is0 6 (0) (w / 32768 % 32) (w / 1048576 % 32) (w / 128 % 2 * 2048 + w / 33554432 % 64 * 32 + w / 256 % 16 * 2 - w / 2147483648 * 4096) (0) = true := is6 ⟨by omega, by omega⟩ ⟨by omega, by omega⟩ ⟨by omega, by omega⟩ (by omega)
  refine ⟨his, ?_, ins6 hW hq h3, g1f (by decide +kernel), g2t hW (by decide +kernel), g3t hW (by decide +kernel), g4_B hW (by decide +kernel) (by decide +kernel) (by decide +kernel), g5f (by decide +kernel), cnd hW (by decide +kernel) hq (by decide +kernel) h3, hq.trans (by decide +kernel)⟩
  rw [(enc6 his).1]
  obtain ⟨a, ea⟩ : ∃ p, w / 2147483648 = p := ⟨_, rfl⟩
  obtain ⟨b, eb⟩ : ∃ p, w / 128 % 2 = p := ⟨_, rfl⟩
  obtain ⟨c, ec⟩ : ∃ p, w / 33554432 % 64 = p := ⟨_, rfl⟩
  obtain ⟨d, ed⟩ : ∃ p, w / 256 % 16 = p := ⟨_, rfl⟩
  rw [ea, eb, ec, ed]
  have ha : 0 ≤ a ∧ a < 2 := by omega
  have hb : 0 ≤ b ∧ b < 2 := by omega
  have hc : 0 ≤ c ∧ c < 64 := by omega
  have hd : 0 ≤ d ∧ d < 16 := by omega
  obtain ⟨m, em⟩ : ∃ m, (b * 2048 + c * 32 + d * 2 - a * 4096) % 4294967296 = m := ⟨_, rfl⟩
  rw [em]
  have em' : m = b * 2048 + c * 32 + d * 2 + a * 4294963200 := by clear ea eb ec ed his hw hq h3; omega
  clear em
  have q1 : m / 4096 % 2 = a := by clear ea eb ec ed his hw hq h3; omega
  have q2 : m / 2048 % 2 = b := by clear ea eb ec ed his hw hq h3; omega
  have q3 : m / 32 % 64 = c := by clear ea eb ec ed his hw hq h3; omega
  have q4 : m / 2 % 16 = d := by clear ea eb ec ed his hw hq h3; omega
  rw [q1, q2, q3, q4]
  clear em' q1 q2 q3 q4 his
  omega
theorem hit7 {w : Int} (hW : W32 w) (hq : w % 128 = 99) (h3 : w / 4096 % 8 = 4) : HitT w 7 (0) (w / 32768 % 32) (w / 1048576 % 32) (w / 128 % 2 * 2048 + w / 33554432 % 64 * 32 + w / 256 % 16 * 2 - w / 2147483648 * 4096) (0) := by
  have hw := hW
  unfold W32 at hw
  have his : sallyportref3_Is0 7 (0) (w / 32768 % 32) (w / 1048576 % 32) (w / 128 % 2 * 2048 + w / 33554432 % 64 * 32 + w / 256 % 16 * 2 - w / 2147483648 * 4096) (0) = true := is7 ⟨by omega, by omega⟩ ⟨by omega, by omega⟩ ⟨by omega, by omega⟩ (by omega)
  refine ⟨his, ?_, ins7 hW hq h3, g1f (by decide +kernel), g2t hW (by decide +kernel), g3t hW (by decide +kernel), g4_B hW (by decide +kernel) (by decide +kernel) (by decide +kernel), g5f (by decide +kernel), cnd hW (by decide +kernel) hq (by decide +kernel) h3, hq.trans (by decide +kernel)⟩
  rw [(enc7 his).1]
  obtain ⟨a, ea⟩ : ∃ p, w / 2147483648 = p := ⟨_, rfl⟩
  obtain ⟨b, eb⟩ : ∃ p, w / 128 % 2 = p := ⟨_, rfl⟩
  obtain ⟨c, ec⟩ : ∃ p, w / 33554432 % 64 = p := ⟨_, rfl⟩
  obtain ⟨d, ed⟩ : ∃ p, w / 256 % 16 = p := ⟨_, rfl⟩
  rw [ea, eb, ec, ed]
  have ha : 0 ≤ a ∧ a < 2 := by omega
  have hb : 0 ≤ b ∧ b < 2 := by omega
  have hc : 0 ≤ c ∧ c < 64 := by omega
  have hd : 0 ≤ d ∧ d < 16 := by omega
  obtain ⟨m, em⟩ : ∃ m, (b * 2048 + c * 32 + d * 2 - a * 4096) % 4294967296 = m := ⟨_, rfl⟩
  rw [em]
  have em' : m = b * 2048 + c * 32 + d * 2 + a * 4294963200 := by clear ea eb ec ed his hw hq h3; omega
  clear em
  have q1 : m / 4096 % 2 = a := by clear ea eb ec ed his hw hq h3; omega
  have q2 : m / 2048 % 2 = b := by clear ea eb ec ed his hw hq h3; omega
  have q3 : m / 32 % 64 = c := by clear ea eb ec ed his hw hq h3; omega
  have q4 : m / 2 % 16 = d := by clear ea eb ec ed his hw hq h3; omega
  rw [q1, q2, q3, q4]
  clear em' q1 q2 q3 q4 his
  omega
theorem hit8 {w : Int} (hW : W32 w) (hq : w % 128 = 99) (h3 : w / 4096 % 8 = 5) : HitT w 8 (0) (w / 32768 % 32) (w / 1048576 % 32) (w / 128 % 2 * 2048 + w / 33554432 % 64 * 32 + w / 256 % 16 * 2 - w / 2147483648 * 4096) (0) := by
  have hw := hW
  unfold W32 at hw
  have his : sallyportref3_Is0 8 (0) (w / 32768 % 32) (w / 1048576 % 32) (w / 128 % 2 * 2048 + w / 33554432 % 64 * 32 + w / 256 % 16 * 2 - w / 2147483648 * 4096) (0) = true := is8 ⟨by omega, by omega⟩ ⟨by omega, by omega⟩ ⟨by omega, by omega⟩ (by omega)
  refine ⟨his, ?_, ins8 hW hq h3, g1f (by decide +kernel), g2t hW (by decide +kernel), g3t hW (by decide +kernel), g4_B hW (by decide +kernel) (by decide +kernel) (by decide +kernel), g5f (by decide +kernel), cnd hW (by decide +kernel) hq (by decide +kernel) h3, hq.trans (by decide +kernel)⟩
  rw [(enc8 his).1]
  obtain ⟨a, ea⟩ : ∃ p, w / 2147483648 = p := ⟨_, rfl⟩
  obtain ⟨b, eb⟩ : ∃ p, w / 128 % 2 = p := ⟨_, rfl⟩
  obtain ⟨c, ec⟩ : ∃ p, w / 33554432 % 64 = p := ⟨_, rfl⟩
  obtain ⟨d, ed⟩ : ∃ p, w / 256 % 16 = p := ⟨_, rfl⟩
  rw [ea, eb, ec, ed]
  have ha : 0 ≤ a ∧ a < 2 := by omega
  have hb : 0 ≤ b ∧ b < 2 := by omega
  have hc : 0 ≤ c ∧ c < 64 := by omega
  have hd : 0 ≤ d ∧ d < 16 := by omega
  obtain ⟨m, em⟩ : ∃ m, (b * 2048 + c * 32 + d * 2 - a * 4096) % 4294967296 = m := ⟨_, rfl⟩
  rw [em]
  have em' : m = b * 2048 + c * 32 + d * 2 + a * 4294963200 := by clear ea eb ec ed his hw hq h3; omega
  clear em
  have q1 : m / 4096 % 2 = a := by clear ea eb ec ed his hw hq h3; omega
  have q2 : m / 2048 % 2 = b := by clear ea eb ec ed his hw hq h3; omega
  have q3 : m / 32 % 64 = c := by clear ea eb ec ed his hw hq h3; omega
  have q4 : m / 2 % 16 = d := by clear ea eb ec ed his hw hq h3; omega
  rw [q1, q2, q3, q4]
  clear em' q1 q2 q3 q4 his
  omega
theorem hit9 {w : Int} (hW : W32 w) (hq : w % 128 = 99) (h3 : w / 4096 % 8 = 6) : HitT w 9 (0) (w / 32768 % 32) (w / 1048576 % 32) (w / 128 % 2 * 2048 + w / 33554432 % 64 * 32 + w / 256 % 16 * 2 - w / 2147483648 * 4096) (0) := by
  have hw := hW
  unfold W32 at hw
  have his : sallyportref3_Is0 9 (0) (w / 32768 % 32) (w / 1048576 % 32) (w / 128 % 2 * 2048 + w / 33554432 % 64 * 32 + w / 256 % 16 * 2 - w / 2147483648 * 4096) (0) = true := is9 ⟨by omega, by omega⟩ ⟨by omega, by omega⟩ ⟨by omega, by omega⟩ (by omega)
  refine ⟨his, ?_, ins9 hW hq h3, g1f (by decide +kernel), g2t hW (by decide +kernel), g3t hW (by decide +kernel), g4_B hW (by decide +kernel) (by decide +kernel) (by decide +kernel), g5f (by decide +kernel), cnd hW (by decide +kernel) hq (by decide +kernel) h3, hq.trans (by decide +kernel)⟩
  rw [(enc9 his).1]
  obtain ⟨a, ea⟩ : ∃ p, w / 2147483648 = p := ⟨_, rfl⟩
  obtain ⟨b, eb⟩ : ∃ p, w / 128 % 2 = p := ⟨_, rfl⟩
  obtain ⟨c, ec⟩ : ∃ p, w / 33554432 % 64 = p := ⟨_, rfl⟩
  obtain ⟨d, ed⟩ : ∃ p, w / 256 % 16 = p := ⟨_, rfl⟩
  rw [ea, eb, ec, ed]
  have ha : 0 ≤ a ∧ a < 2 := by omega
  have hb : 0 ≤ b ∧ b < 2 := by omega
  have hc : 0 ≤ c ∧ c < 64 := by omega
  have hd : 0 ≤ d ∧ d < 16 := by omega
  obtain ⟨m, em⟩ : ∃ m, (b * 2048 + c * 32 + d * 2 - a * 4096) % 4294967296 = m := ⟨_, rfl⟩
  rw [em]
  have em' : m = b * 2048 + c * 32 + d * 2 + a * 4294963200 := by clear ea eb ec ed his hw hq h3; omega
  clear em
  have q1 : m / 4096 % 2 = a := by clear ea eb ec ed his hw hq h3; omega
  have q2 : m / 2048 % 2 = b := by clear ea eb ec ed his hw hq h3; omega
  have q3 : m / 32 % 64 = c := by clear ea eb ec ed his hw hq h3; omega
  have q4 : m / 2 % 16 = d := by clear ea eb ec ed his hw hq h3; omega
  rw [q1, q2, q3, q4]
  clear em' q1 q2 q3 q4 his
  omega
theorem hit10 {w : Int} (hW : W32 w) (hq : w % 128 = 99) (h3 : w / 4096 % 8 = 7) : HitT w 10 (0) (w / 32768 % 32) (w / 1048576 % 32) (w / 128 % 2 * 2048 + w / 33554432 % 64 * 32 + w / 256 % 16 * 2 - w / 2147483648 * 4096) (0) := by
  have hw := hW
  unfold W32 at hw
  have his : sallyportref3_Is0 10 (0) (w / 32768 % 32) (w / 1048576 % 32) (w / 128 % 2 * 2048 + w / 33554432 % 64 * 32 + w / 256 % 16 * 2 - w / 2147483648 * 4096) (0) = true := is10 ⟨by omega, by omega⟩ ⟨by omega, by omega⟩ ⟨by omega, by omega⟩ (by omega)
  refine ⟨his, ?_, ins10 hW hq h3, g1f (by decide +kernel), g2t hW (by decide +kernel), g3t hW (by decide +kernel), g4_B hW (by decide +kernel) (by decide +kernel) (by decide +kernel), g5f (by decide +kernel), cnd hW (by decide +kernel) hq (by decide +kernel) h3, hq.trans (by decide +kernel)⟩
  rw [(enc10 his).1]
  obtain ⟨a, ea⟩ : ∃ p, w / 2147483648 = p := ⟨_, rfl⟩
  obtain ⟨b, eb⟩ : ∃ p, w / 128 % 2 = p := ⟨_, rfl⟩
  obtain ⟨c, ec⟩ : ∃ p, w / 33554432 % 64 = p := ⟨_, rfl⟩
  obtain ⟨d, ed⟩ : ∃ p, w / 256 % 16 = p := ⟨_, rfl⟩
  rw [ea, eb, ec, ed]
  have ha : 0 ≤ a ∧ a < 2 := by omega
  have hb : 0 ≤ b ∧ b < 2 := by omega
  have hc : 0 ≤ c ∧ c < 64 := by omega
  have hd : 0 ≤ d ∧ d < 16 := by omega
  obtain ⟨m, em⟩ : ∃ m, (b * 2048 + c * 32 + d * 2 - a * 4096) % 4294967296 = m := ⟨_, rfl⟩
  rw [em]
  have em' : m = b * 2048 + c * 32 + d * 2 + a * 4294963200 := by clear ea eb ec ed his hw hq h3; omega
  clear em
  have q1 : m / 4096 % 2 = a := by clear ea eb ec ed his hw hq h3; omega
  have q2 : m / 2048 % 2 = b := by clear ea eb ec ed his hw hq h3; omega
  have q3 : m / 32 % 64 = c := by clear ea eb ec ed his hw hq h3; omega
  have q4 : m / 2 % 16 = d := by clear ea eb ec ed his hw hq h3; omega
  rw [q1, q2, q3, q4]
  clear em' q1 q2 q3 q4 his
  omega
theorem hit11 {w : Int} (hW : W32 w) (hq : w % 128 = 3) (h3 : w / 4096 % 8 = 0) : HitT w 11 (w / 128 % 32) (w / 32768 % 32) (0) (if w / 1048576 < 2048 then w / 1048576 else w / 1048576 - 4096) (0) := by
  have hw := hW
  unfold W32 at hw
  have his : sallyportref3_Is0 11 (w / 128 % 32) (w / 32768 % 32) (0) (if w / 1048576 < 2048 then w / 1048576 else w / 1048576 - 4096) (0) = true := is11 ⟨by omega, by omega⟩ ⟨by omega, by omega⟩ ⟨by split <;> omega, by split <;> omega⟩ 
  refine ⟨his, ?_, ins11 hW hq h3, g1t hW (by decide +kernel), g2t hW (by decide +kernel), g3f (by decide +kernel), g4_I hW (by decide +kernel) (by decide +kernel) (by decide +kernel) (by decide +kernel) (by decide +kernel) (by decide +kernel) (by decide +kernel) (by decide +kernel), g5f (by decide +kernel), cnd hW (by decide +kernel) hq (by decide +kernel) h3, hq.trans (by decide +kernel)⟩
  rw [(enc11 his).1]
  split <;> omega
theorem hit12 {w : Int} (hW : W32 w) (hq : w % 128 = 3) (h3 : w / 4096 % 8 = 1) : HitT w 12 (w / 128 % 32) (w / 32768 % 32) (0) (if w / 1048576 < 2048 then w / 1048576 else w / 1048576 - 4096) (0) := by
  have hw := hW
  unfold W32 at hw
  have his : sallyportref3_Is0 12 (w / 128 % 32) (w / 32768 % 32) (0) (if w / 1048576 < 2048 then w / 1048576 else w / 1048576 - 4096) (0) = true := is12 ⟨by omega, by omega⟩ ⟨by omega, by omega⟩ ⟨by split <;> omega, by split <;> omega⟩ 
  refine ⟨his, ?_, ins12 hW hq h3, g1t hW (by decide +kernel), g2t hW (by decide +kernel), g3f (by decide +kernel), g4_I hW (by decide +kernel) (by decide +kernel) (by decide +kernel) (by decide +kernel) (by decide +kernel) (by decide +kernel) (by decide +kernel) (by decide +kernel), g5f (by decide +kernel), cnd hW (by decide +kernel) hq (by decide +kernel) h3, hq.trans (by decide +kernel)⟩
  rw [(enc12 his).1]
  split <;> omega
theorem hit13 {w : Int} (hW : W32 w) (hq : w % 128 = 3) (h3 : w / 4096 % 8 = 2) : HitT w 13 (w / 128 % 32) (w / 32768 % 32) (0) (if w / 1048576 < 2048 then w / 1048576 else w / 1048576 - 4096) (0) := by
  have hw := hW
  unfold W32 at hw
  have his : sallyportref3_Is0 13 (w / 128 % 32) (w / 32768 % 32) (0) (if w / 1048576 < 2048 then w / 1048576 else w / 1048576 - 4096) (0) = true := is13 ⟨by omega, by omega⟩ ⟨by omega, by omega⟩ ⟨by split <;> omega, by split <;> omega⟩ 
  refine ⟨his, ?_, ins13 hW hq h3, g1t hW (by decide +kernel), g2t hW (by decide +kernel), g3f (by decide +kernel), g4_I hW (by decide +kernel) (by decide +kernel) (by decide +kernel) (by decide +kernel) (by decide +kernel) (by decide +kernel) (by decide +kernel) (by decide +kernel), g5f (by decide +kernel), cnd hW (by decide +kernel) hq (by decide +kernel) h3, hq.trans (by decide +kernel)⟩
  rw [(enc13 his).1]
  split <;> omega
theorem hit14 {w : Int} (hW : W32 w) (hq : w % 128 = 3) (h3 : w / 4096 % 8 = 3) : HitT w 14 (w / 128 % 32) (w / 32768 % 32) (0) (if w / 1048576 < 2048 then w / 1048576 else w / 1048576 - 4096) (0) := by
  have hw := hW
  unfold W32 at hw
  have his : sallyportref3_Is0 14 (w / 128 % 32) (w / 32768 % 32) (0) (if w / 1048576 < 2048 then w / 1048576 else w / 1048576 - 4096) (0) = true := is14 ⟨by omega, by omega⟩ ⟨by omega, by omega⟩ ⟨by split <;> omega, by split <;> omega⟩ 
  refine ⟨his, ?_, ins14 hW hq h3, g1t hW (by decide +kernel), g2t hW (by decide +kernel), g3f (by decide +kernel), g4_I hW (by decide +kernel) (by decide +kernel) (by decide +kernel) (by decide +kernel) (by decide +kernel) (by decide +kernel) (by decide +kernel) (by decide +kernel), g5f (by decide +kernel), cnd hW (by decide +kernel) hq (by decide +kernel) h3, hq.trans (by decide +kernel)⟩
  rw [(enc14 his).1]
  split <;> omega
theorem hit15 {w : Int} (hW : W32 w) (hq : w % 128 = 3) (h3 : w / 4096 % 8 = 4) : HitT w 15 (w / 128 % 32) (w / 32768 % 32) (0) (if w / 1048576 < 2048 then w / 1048576 else w / 1048576 - 4096) (0) := by
  have hw := hW
  unfold W32 at hw
  have his : sallyportref3_Is0 15 (w / 128 % 32) (w / 32768 % 32) (0) (if w / 1048576 < 2048 then w / 1048576 else w / 1048576 - 4096) (0) = true := is15 ⟨by omega, by omega⟩ ⟨by omega, by omega⟩ ⟨by split <;> omega, by split <;> omega⟩ 
  refine ⟨his, ?_, ins15 hW hq h3, g1t hW (by decide +kernel), g2t hW (by decide +kernel), g3f (by decide +kernel), g4_I hW (by decide +kernel) (by decide +kernel) (by decide +kernel) (by decide +kernel) (by decide +kernel) (by decide +kernel) (by decide +kernel) (by decide +kernel), g5f (by decide +kernel), cnd hW (by decide +kernel) hq (by decide +kernel) h3, hq.trans (by decide +kernel)⟩
  rw [(enc15 his).1]
  split <;> omega
theorem hit16 {w : Int} (hW : W32 w) (hq : w % 128 = 3) (h3 : w / 4096 % 8 = 5) : HitT w 16 (w / 128 % 32) (w / 32768 % 32) (0) (if w / 1048576 < 2048 then w / 1048576 else w / 1048576 - 4096) (0) := by
  have hw := hW
  unfold W32 at hw
  have his : sallyportref3_Is0 16 (w / 128 % 32) (w / 32768 % 32) (0) (if w / 1048576 < 2048 then w / 1048576 else w / 1048576 - 4096) (0) = true := is16 ⟨by omega, by omega⟩ ⟨by omega, by omega⟩ ⟨by split <;> omega, by split <;> omega⟩ 
  refine ⟨his, ?_, ins16 hW hq h3, g1t hW (by decide +kernel), g2t hW (by decide +kernel), g3f (by decide +kernel), g4_I hW (by decide +kernel) (by decide +kernel) (by decide +kernel) (by decide +kernel) (by decide +kernel) (by decide +kernel) (by decide +kernel) (by decide +kernel), g5f (by decide +kernel), cnd hW (by decide +kernel) hq (by decide +kernel) h3, hq.trans (by decide +kernel)⟩
  rw [(enc16 his).1]
  split <;> omega
theorem hit17 {w : Int} (hW : W32 w) (hq : w % 128 = 3) (h3 : w / 4096 % 8 = 6) : HitT w 17 (w / 128 % 32) (w / 32768 % 32) (0) (if w / 1048576 < 2048 then w / 1048576 else w / 1048576 - 4096) (0) := by
  have hw := hW
  unfold W32 at hw
  have his : sallyportref3_Is0 17 (w / 128 % 32) (w / 32768 % 32) (0) (if w / 1048576 < 2048 then w / 1048576 else w / 1048576 - 4096) (0) = true := is17 ⟨by omega, by omega⟩ ⟨by omega, by omega⟩ ⟨by split <;> omega, by split <;> omega⟩ 
  refine ⟨his, ?_, ins17 hW hq h3, g1t hW (by decide +kernel), g2t hW (by decide +kernel), g3f (by decide +kernel), g4_I hW (by decide +kernel) (by decide +kernel) (by decide +kernel) (by decide +kernel) (by decide +kernel) (by decide +kernel) (by decide +kernel) (by decide +kernel), g5f (by decide +kernel), cnd hW (by decide +kernel) hq (by decide +kernel) h3, hq.trans (by decide +kernel)⟩
  rw [(enc17 his).1]
  split <;> omega
theorem hit18 {w : Int} (hW : W32 w) (hq : w % 128 = 35) (h3 : w / 4096 % 8 = 0) : HitT w 18 (0) (w / 32768 % 32) (w / 1048576 % 32) (if w / 33554432 < 64 then w / 33554432 * 32 + w / 128 % 32 else w / 33554432 * 32 + w / 128 % 32 - 4096) (0) := by
  have hw := hW
  unfold W32 at hw
  have his : sallyportref3_Is0 18 (0) (w / 32768 % 32) (w / 1048576 % 32) (if w / 33554432 < 64 then w / 33554432 * 32 + w / 128 % 32 else w / 33554432 * 32 + w / 128 % 32 - 4096) (0) = true := is18 ⟨by omega, by omega⟩ ⟨by omega, by omega⟩ ⟨by split <;> omega, by split <;> omega⟩ 
  refine ⟨his, ?_, ins18 hW hq h3, g1f (by decide +kernel), g2t hW (by decide +kernel), g3t hW (by decide +kernel), g4_S hW (by decide +kernel) (by decide +kernel) (by decide +kernel) (by decide +kernel), g5f (by decide +kernel), cnd hW (by decide +kernel) hq (by decide +kernel) h3, hq.trans (by decide +kernel)⟩
  rw [(enc18 his).1]
  obtain ⟨t, et⟩ : ∃ p, w / 33554432 = p := ⟨_, rfl⟩
  obtain ⟨d, ed⟩ : ∃ p, w / 128 % 32 = p := ⟨_, rfl⟩
  rw [et, ed]
  have ht : 0 ≤ t ∧ t < 128 := by omega
  have hd : 0 ≤ d ∧ d < 32 := by omega
  have q1 : (if t < 64 then t * 32 + d else t * 32 + d - 4096) % 4294967296 / 32 % 128 = t := by clear et ed his hw hq h3; split <;> omega
  have q2 : (if t < 64 then t * 32 + d else t * 32 + d - 4096) % 4294967296 % 32 = d := by clear et ed his hw hq h3; split <;> omega
  rw [q1, q2]
  clear q1 q2 his
  omega
theorem hit19 {w : Int} (hW : W32 w) (hq : w % 128 = 35) (h3 : w / 4096 % 8 = 1) : HitT w 19 (0) (w / 32768 % 32) (w / 1048576 % 32) (if w / 33554432 < 64 then w / 33554432 * 32 + w / 128 % 32 else w / 33554432 * 32 + w / 128 % 32 - 4096) (0) := by
  have hw := hW
  unfold W32 at hw
  have his : sallyportref3_Is0 19 (0) (w / 32768 % 32) (w / 1048576 % 32) (if w / 33554432 < 64 then w / 33554432 * 32 + w / 128 % 32 else w / 33554432 * 32 + w / 128 % 32 - 4096) (0) = true := is19 ⟨by omega, by omega⟩ ⟨by omega, by omega⟩ ⟨by split <;> omega, by split <;> omega⟩ 
  refine ⟨his, ?_, ins19 hW hq h3, g1f (by decide +kernel), g2t hW (by decide +kernel), g3t hW (by decide +kernel), g4_S hW (by decide +kernel) (by decide +kernel) (by decide +kernel) (by decide +kernel), g5f (by decide +kernel), cnd hW (by decide +kernel) hq (by decide +kernel) h3, hq.trans (by decide +kernel)⟩
  rw [(enc19 his).1]
  obtain ⟨t, et⟩ : ∃ p, w / 33554432 = p := ⟨_, rfl⟩
  obtain ⟨d, ed⟩ : ∃ p, w / 128 % 32 = p := ⟨_, rfl⟩
  rw [et, ed]
  have ht : 0 ≤ t ∧ t < 128 := by omega
  have hd : 0 ≤ d ∧ d < 32 := by omega
  have q1 : (if t < 64 then t * 32 + d else t * 32 + d - 4096) % 4294967296 / 32 % 128 = t := by clear et ed his hw hq h3; split <;> omega
  have q2 : (if t < 64 then t * 32 + d else t * 32 + d - 4096) % 4294967296 % 32 = d := by clear et ed his hw hq h3; split <;> omega
  rw [q1, q2]
  clear q1 q2 his
  omega
theorem hit20 {w : Int} (hW : W32 w) (hq : w % 128 = 35) (h3 : w / 4096 % 8 = 2) : HitT w 20 (0) (w / 32768 % 32) (w / 1048576 % 32) (if w / 33554432 < 64 then w / 33554432 * 32 + w / 128 % 32 else w / 33554432 * 32 + w / 128 % 32 - 4096) (0) := by
  have hw := hW
  unfold W32 at hw
  have his : sallyportref3_Is0 20 (0) (w / 32768 % 32) (w / 1048576 % 32) (if w / 33554432 < 64 then w / 33554432 * 32 + w / 128 % 32 else w / 33554432 * 32 + w / 128 % 32 - 4096) (0) = true := is20 ⟨by omega, by omega⟩ ⟨by omega, by omega⟩ ⟨by split <;> omega, by split <;> omega⟩ 
  refine ⟨his, ?_, ins20 hW hq h3, g1f (by decide +kernel), g2t hW (by decide +kernel), g3t hW (by decide +kernel), g4_S hW (by decide +kernel) (by decide +kernel) (by decide +kernel) (by decide +kernel), g5f (by decide +kernel), cnd hW (by decide +kernel) hq (by decide +kernel) h3, hq.trans (by decide +kernel)⟩
  rw [(enc20 his).1]
  obtain ⟨t, et⟩ : ∃ p, w / 33554432 = p := ⟨_, rfl⟩
  obtain ⟨d, ed⟩ : ∃ p, w / 128 % 32 = p := ⟨_, rfl⟩
  rw [et, ed]
  have ht : 0 ≤ t ∧ t < 128 := by omega
  have hd : 0 ≤ d ∧ d < 32 := by omega
  have q1 : (if t < 64 then t * 32 + d else t * 32 + d - 4096) % 4294967296 / 32 % 128 = t := by clear et ed his hw hq h3; split <;> omega
  have q2 : (if t < 64 then t * 32 + d else t * 32 + d - 4096) % 4294967296 % 32 = d := by clear et ed his hw hq h3; split <;> omega
  rw [q1, q2]
  clear q1 q2 his
  omega
theorem hit21 {w : Int} (hW : W32 w) (hq : w % 128 = 35) (h3 : w / 4096 % 8 = 3) : HitT w 21 (0) (w / 32768 % 32) (w / 1048576 % 32) (if w / 33554432 < 64 then w / 33554432 * 32 + w / 128 % 32 else w / 33554432 * 32 + w / 128 % 32 - 4096) (0) := by
  have hw := hW
  unfold W32 at hw
  have his : sallyportref3_Is0 21 (0) (w / 32768 % 32) (w / 1048576 % 32) (if w / 33554432 < 64 then w / 33554432 * 32 + w / 128 % 32 else w / 33554432 * 32 + w / 128 % 32 - 4096) (0) = true := is21 ⟨by omega, by omega⟩ ⟨by omega, by omega⟩ ⟨by split <;> omega, by split <;> omega⟩ 
  refine ⟨his, ?_, ins21 hW hq h3, g1f (by decide +kernel), g2t hW (by decide +kernel), g3t hW (by decide +kernel), g4_S hW (by decide +kernel) (by decide +kernel) (by decide +kernel) (by decide +kernel), g5f (by decide +kernel), cnd hW (by decide +kernel) hq (by decide +kernel) h3, hq.trans (by decide +kernel)⟩
  rw [(enc21 his).1]
  obtain ⟨t, et⟩ : ∃ p, w / 33554432 = p := ⟨_, rfl⟩
  obtain ⟨d, ed⟩ : ∃ p, w / 128 % 32 = p := ⟨_, rfl⟩
  rw [et, ed]
  have ht : 0 ≤ t ∧ t < 128 := by omega
  have hd : 0 ≤ d ∧ d < 32 := by omega
  have q1 : (if t < 64 then t * 32 + d else t * 32 + d - 4096) % 4294967296 / 32 % 128 = t := by clear et ed his hw hq h3; split <;> omega
  have q2 : (if t < 64 then t * 32 + d else t * 32 + d - 4096) % 4294967296 % 32 = d := by clear et ed his hw hq h3; split <;> omega
  rw [q1, q2]
  clear q1 q2 his
  omega
theorem hit22 {w : Int} (hW : W32 w) (hq : w % 128 = 19) (h3 : w / 4096 % 8 = 0) : HitT w 22 (w / 128 % 32) (w / 32768 % 32) (0) (if w / 1048576 < 2048 then w / 1048576 else w / 1048576 - 4096) (0) := by
  have hw := hW
  unfold W32 at hw
  have his : sallyportref3_Is0 22 (w / 128 % 32) (w / 32768 % 32) (0) (if w / 1048576 < 2048 then w / 1048576 else w / 1048576 - 4096) (0) = true := is22 ⟨by omega, by omega⟩ ⟨by omega, by omega⟩ ⟨by split <;> omega, by split <;> omega⟩ 
  refine ⟨his, ?_, ins22 hW hq h3, g1t hW (by decide +kernel), g2t hW (by decide +kernel), g3f (by decide +kernel), g4_I hW (by decide +kernel) (by decide +kernel) (by decide +kernel) (by decide +kernel) (by decide +kernel) (by decide +kernel) (by decide +kernel) (by decide +kernel), g5f (by decide +kernel), cnd hW (by decide +kernel) hq (by decide +kernel) h3, hq.trans (by decide +kernel)⟩
  rw [(enc22 his).1]
  split <;> omega
theorem hit23 {w : Int} (hW : W32 w) (hq : w % 128 = 19) (h3 : w / 4096 % 8 = 2) : HitT w 23 (w / 128 % 32) (w / 32768 % 32) (0) (if w / 1048576 < 2048 then w / 1048576 else w / 1048576 - 4096) (0) := by
  have hw := hW
  unfold W32 at hw
  have his : sallyportref3_Is0 23 (w / 128 % 32) (w / 32768 % 32) (0) (if w / 1048576 < 2048 then w / 1048576 else w / 1048576 - 4096) (0) = true := is23 ⟨by omega, by omega⟩ ⟨by omega, by omega⟩ ⟨by split <;> omega, by split <;> omega⟩ 
  refine ⟨his, ?_, ins23 hW hq h3, g1t hW (by decide +kernel), g2t hW (by decide +kernel), g3f (by decide +kernel), g4_I hW (by decide +kernel) (by decide +kernel) (by decide +kernel) (by decide +kernel) (by decide +kernel) (by decide +kernel) (by decide +kernel) (by decide +kernel), g5f (by decide +kernel), cnd hW (by decide +kernel) hq (by decide +kernel) h3, hq.trans (by decide +kernel)⟩
  rw [(enc23 his).1]
  split <;> omega
theorem hit24 {w : Int} (hW : W32 w) (hq : w % 128 = 19) (h3 : w / 4096 % 8 = 3) : HitT w 24 (w / 128 % 32) (w / 32768 % 32) (0) (if w / 1048576 < 2048 then w / 1048576 else w / 1048576 - 4096) (0) := by
  have hw := hW
  unfold W32 at hw
  have his : sallyportref3_Is0 24 (w / 128 % 32) (w / 32768 % 32) (0) (if w / 1048576 < 2048 then w / 1048576 else w / 1048576 - 4096) (0) = true := is24 ⟨by omega, by omega⟩ ⟨by omega, by omega⟩ ⟨by split <;> omega, by split <;> omega⟩ 
  refine ⟨his, ?_, ins24 hW hq h3, g1t hW (by decide +kernel), g2t hW (by decide +kernel), g3f (by decide +kernel), g4_I hW (by decide +kernel) (by decide +kernel) (by decide +kernel) (by decide +kernel) (by decide +kernel) (by decide +kernel) (by decide +kernel) (by decide +kernel), g5f (by decide +kernel), cnd hW (by decide +kernel) hq (by decide +kernel) h3, hq.trans (by decide +kernel)⟩
  rw [(enc24 his).1]
  split <;> omega
theorem hit25 {w : Int} (hW : W32 w) (hq : w % 128 = 19) (h3 : w / 4096 % 8 = 4) : HitT w 25 (w / 128 % 32) (w / 32768 % 32) (0) (if w / 1048576 < 2048 then w / 1048576 else w / 1048576 - 4096) (0) := by
  have hw := hW
  unfold W32 at hw
  have his : sallyportref3_Is0 25 (w / 128 % 32) (w / 32768 % 32) (0) (if w / 1048576 < 2048 then w / 1048576 else w / 1048576 - 4096) (0) = true := is25 ⟨by omega, by omega⟩ ⟨by omega, by omega⟩ ⟨by split <;> omega, by split <;> omega⟩ 
  refine ⟨his, ?_, ins25 hW hq h3, g1t hW (by decide +kernel), g2t hW (by decide +kernel), g3f (by decide +kernel), g4_I hW (by decide +kernel) (by decide +kernel) (by decide +kernel) (by decide +kernel) (by decide +kernel) (by decide +kernel) (by decide +kernel) (by decide +kernel), g5f (by decide +kernel), cnd hW (by decide +kernel) hq (by decide +kernel) h3, hq.trans (by decide +kernel)⟩
  rw [(enc25 his).1]
  split <;> omega
theorem hit26 {w : Int} (hW : W32 w) (hq : w % 128 = 19) (h3 : w / 4096 % 8 = 6) : HitT w 26 (w / 128 % 32) (w / 32768 % 32) (0) (if w / 1048576 < 2048 then w / 1048576 else w / 1048576 - 4096) (0) := by
  have hw := hW
  unfold W32 at hw
  have his : sallyportref3_Is0 26 (w / 128 % 32) (w / 32768 % 32) (0) (if w / 1048576 < 2048 then w / 1048576 else w / 1048576 - 4096) (0) = true := is26 ⟨by omega, by omega⟩ ⟨by omega, by omega⟩ ⟨by split <;> omega, by split <;> omega⟩ 
  refine ⟨his, ?_, ins26 hW hq h3, g1t hW (by decide +kernel), g2t hW (by decide +kernel), g3f (by decide +kernel), g4_I hW (by decide +kernel) (by decide +kernel) (by decide +kernel) (by decide +kernel) (by decide +kernel) (by decide +kernel) (by decide +kernel) (by decide +kernel), g5f (by decide +kernel), cnd hW (by decide +kernel) hq (by decide +kernel) h3, hq.trans (by decide +kernel)⟩
  rw [(enc26 his).1]
  split <;> omega
theorem hit27 {w : Int} (hW : W32 w) (hq : w % 128 = 19) (h3 : w / 4096 % 8 = 7) : HitT w 27 (w / 128 % 32) (w / 32768 % 32) (0) (if w / 1048576 < 2048 then w / 1048576 else w / 1048576 - 4096) (0) := by
  have hw := hW
  unfold W32 at hw
  have his : sallyportref3_Is0 27 (w / 128 % 32) (w / 32768 % 32) (0) (if w / 1048576 < 2048 then w / 1048576 else w / 1048576 - 4096) (0) = true := is27 ⟨by omega, by omega⟩ ⟨by omega, by omega⟩ ⟨by split <;> omega, by split <;> omega⟩ 
  refine ⟨his, ?_, ins27 hW hq h3, g1t hW (by decide +kernel), g2t hW (by decide +kernel), g3f (by decide +kernel), g4_I hW (by decide +kernel) (by decide +kernel) (by decide +kernel) (by decide +kernel) (by decide +kernel) (by decide +kernel) (by decide +kernel) (by decide +kernel), g5f (by decide +kernel), cnd hW (by decide +kernel) hq (by decide +kernel) h3, hq.trans (by decide +kernel)⟩
  rw [(enc27 his).1]
  split <;> omega
theorem hit28 {w : Int} (hW : W32 w) (hq : w % 128 = 19) (h3 : w / 4096 % 8 = 1) (hb : w / 67108864 % 64 = 0) : HitT w 28 (w / 128 % 32) (w / 32768 % 32) (0) (w / 1048576 % 64) (0) := by
  have hw := hW
  unfold W32 at hw
  have his : sallyportref3_Is0 28 (w / 128 % 32) (w / 32768 % 32) (0) (w / 1048576 % 64) (0) = true := is28 ⟨by omega, by omega⟩ ⟨by omega, by omega⟩ ⟨by omega, by omega⟩ 
  refine ⟨his, ?_, ins28 hW hq h3 hb, g1t hW (by decide +kernel), g2t hW (by decide +kernel), g3f (by decide +kernel), g4_Sh6 hW (by decide +kernel) (by decide +kernel) (by decide +kernel) (by decide +kernel) (by decide +kernel), g5f (by decide +kernel), cnd hW (by decide +kernel) hq (by decide +kernel) h3, hq.trans (by decide +kernel)⟩
  rw [(enc28 his).1]
  omega
theorem hit29 {w : Int} (hW : W32 w) (hq : w % 128 = 19) (h3 : w / 4096 % 8 = 5) (hb : w / 67108864 % 64 = 0) : HitT w 29 (w / 128 % 32) (w / 32768 % 32) (0) (w / 1048576 % 64) (0) := by
  have hw := hW
  unfold W32 at hw
  have his : sallyportref3_Is0 29 (w / 128 % 32) (w / 32768 % 32) (0) (w / 1048576 % 64) (0) = true := is29 ⟨by omega, by omega⟩ ⟨by omega, by omega⟩ ⟨by omega, by omega⟩ 
  refine ⟨his, ?_, ins29 hW hq h3 hb, g1t hW (by decide +kernel), g2t hW (by decide +kernel), g3f (by decide +kernel), g4_Sh6 hW (by decide +kernel) (by decide +kernel) (by decide +kernel) (by decide +kernel) (by decide +kernel), g5f (by decide +kernel), cnd hW (by decide +kernel) hq (by decide +kernel) h3, hq.trans (by decide +kernel)⟩
  rw [(enc29 his).1]
  omega
theorem hit30 {w : Int} (hW : W32 w) (hq : w % 128 = 19) (h3 : w / 4096 % 8 = 5) (hb : w / 67108864 % 64 = 16) : HitT w 30 (w / 128 % 32) (w / 32768 % 32) (0) (w / 1048576 % 64) (0) := by
  have hw := hW
  unfold W32 at hw
  have his : sallyportref3_Is0 30 (w / 128 % 32) (w / 32768 % 32) (0) (w / 1048576 % 64) (0) = true := is30 ⟨by omega, by omega⟩ ⟨by omega, by omega⟩ ⟨by omega, by omega⟩ 
  refine ⟨his, ?_, ins30 hW hq h3 hb, g1t hW (by decide +kernel), g2t hW (by decide +kernel), g3f (by decide +kernel), g4_Sh6 hW (by decide +kernel) (by decide +kernel) (by decide +kernel) (by decide +kernel) (by decide +kernel), g5f (by decide +kernel), cnd hW (by decide +kernel) hq (by decide +kernel) h3, hq.trans (by decide +kernel)⟩
  rw [(enc30 his).1]
  omega
theorem hit31 {w : Int} (hW : W32 w) (hq : w % 128 = 27) (h3 : w / 4096 % 8 = 0) : HitT w 31 (w / 128 % 32) (w / 32768 % 32) (0) (if w / 1048576 < 2048 then w / 1048576 else w / 1048576 - 4096) (0) := by
  have hw := hW
  unfold W32 at hw
  have his : sallyportref3_Is0 31 (w / 128 % 32) (w / 32768 % 32) (0) (if w / 1048576 < 2048 then w / 1048576 else w / 1048576 - 4096) (0) = true := is31 ⟨by omega, by omega⟩ ⟨by omega, by omega⟩ ⟨by split <;> omega, by split <;> omega⟩ 
  refine ⟨his, ?_, ins31 hW hq h3, g1t hW (by decide +kernel), g2t hW (by decide +kernel), g3f (by decide +kernel), g4_I hW (by decide +kernel) (by decide +kernel) (by decide +kernel) (by decide +kernel) (by decide +kernel) (by decide +kernel) (by decide +kernel) (by decide +kernel), g5f (by decide +kernel), cnd hW (by decide +kernel) hq (by decide +kernel) h3, hq.trans (by decide +kernel)⟩
  rw [(enc31 his).1]
  split <;> omega
theorem hit32 {w : Int} (hW : W32 w) (hq : w % 128 = 27) (h3 : w / 4096 % 8 = 1) (hb : w / 33554432 % 128 = 0) : HitT w 32 (w / 128 % 32) (w / 32768 % 32) (0) (w / 1048576 % 32) (0) := by
  have hw := hW
  unfold W32 at hw
  have his : sallyportref3_Is0 32 (w / 128 % 32) (w / 32768 % 32) (0) (w / 1048576 % 32) (0) = true := is32 ⟨by omega, by omega⟩ ⟨by omega, by omega⟩ ⟨by omega, by omega⟩ 
  refine ⟨his, ?_, ins32 hW hq h3 hb, g1t hW (by decide +kernel), g2t hW (by decide +kernel), g3f (by decide +kernel), g4_Sh5 hW (by decide +kernel) (by decide +kernel) (by decide +kernel) (by decide +kernel) (by decide +kernel) (by decide +kernel), g5f (by decide +kernel), cnd hW (by decide +kernel) hq (by decide +kernel) h3, hq.trans (by decide +kernel)⟩
  rw [(enc32 his).1]
  omega
theorem hit33 {w : Int} (hW : W32 w) (hq : w % 128 = 27) (h3 : w / 4096 % 8 = 5) (hb : w / 33554432 % 128 = 0) : HitT w 33 (w / 128 % 32) (w / 32768 % 32) (0) (w / 1048576 % 32) (0) := by
  have hw := hW
  unfold W32 at hw
  have his : sallyportref3_Is0 33 (w / 128 % 32) (w / 32768 % 32) (0) (w / 1048576 % 32) (0) = true := is33 ⟨by omega, by omega⟩ ⟨by omega, by omega⟩ ⟨by omega, by omega⟩ 
  refine ⟨his, ?_, ins33 hW hq h3 hb, g1t hW (by decide +kernel), g2t hW (by decide +kernel), g3f (by decide +kernel), g4_Sh5 hW (by decide +kernel) (by decide +kernel) (by decide +kernel) (by decide +kernel) (by decide +kernel) (by decide +kernel), g5f (by decide +kernel), cnd hW (by decide +kernel) hq (by decide +kernel) h3, hq.trans (by decide +kernel)⟩
  rw [(enc33 his).1]
  omega
theorem hit34 {w : Int} (hW : W32 w) (hq : w % 128 = 27) (h3 : w / 4096 % 8 = 5) (hb : w / 33554432 % 128 = 32) : HitT w 34 (w / 128 % 32) (w / 32768 % 32) (0) (w / 1048576 % 32) (0) := by
  have hw := hW
  unfold W32 at hw
  have his : sallyportref3_Is0 34 (w / 128 % 32) (w / 32768 % 32) (0) (w / 1048576 % 32) (0) = true := is34 ⟨by omega, by omega⟩ ⟨by omega, by omega⟩ ⟨by omega, by omega⟩ 
  refine ⟨his, ?_, ins34 hW hq h3 hb, g1t hW (by decide +kernel), g2t hW (by decide +kernel), g3f (by decide +kernel), g4_Sh5 hW (by decide +kernel) (by decide +kernel) (by decide +kernel) (by decide +kernel) (by decide +kernel) (by decide +kernel), g5f (by decide +kernel), cnd hW (by decide +kernel) hq (by decide +kernel) h3, hq.trans (by decide +kernel)⟩
  rw [(enc34 his).1]
  omega
theorem hit35 {w : Int} (hW : W32 w) (hq : w % 128 = 51) (h3 : w / 4096 % 8 = 0) (h7 : w / 33554432 % 128 = 0) : HitT w 35 (w / 128 % 32) (w / 32768 % 32) (w / 1048576 % 32) (0) (0) := by
  have hw := hW
  unfold W32 at hw
  have his : sallyportref3_Is0 35 (w / 128 % 32) (w / 32768 % 32) (w / 1048576 % 32) (0) (0) = true := is35 ⟨by omega, by omega⟩ ⟨by omega, by omega⟩ ⟨by omega, by omega⟩ 
  refine ⟨his, ?_, ins35 hW hq h3 h7, g1t hW (by decide +kernel), g2t hW (by decide +kernel), g3t hW (by decide +kernel), g4_0 hW (by decide +kernel) (by decide +kernel) (by decide +kernel) (by decide +kernel) (by decide +kernel) (by decide +kernel) (by decide +kernel) (by decide +kernel), g5f (by decide +kernel), cnd hW (by decide +kernel) hq (by decide +kernel) h3, hq.trans (by decide +kernel)⟩
  rw [(enc35 his).1]
  omega
theorem hit36 {w : Int} (hW : W32 w) (hq : w % 128 = 51) (h3 : w / 4096 % 8 = 0) (h7 : w / 33554432 % 128 = 32) : HitT w 36 (w / 128 % 32) (w / 32768 % 32) (w / 1048576 % 32) (0) (0) := by
  have hw := hW
  unfold W32 at hw
  have his : sallyportref3_Is0 36 (w / 128 % 32) (w / 32768 % 32) (w / 1048576 % 32) (0) (0) = true := is36 ⟨by omega, by omega⟩ ⟨by omega, by omega⟩ ⟨by omega, by omega⟩ 
  refine ⟨his, ?_, ins36 hW hq h3 h7, g1t hW (by decide +kernel), g2t hW (by decide +kernel), g3t hW (by decide +kernel), g4_0 hW (by decide +kernel) (by decide +kernel) (by decide +kernel) (by decide +kernel) (by decide +kernel) (by decide +kernel) (by decide +kernel) (by decide +kernel), g5f (by decide +kernel), cnd hW (by decide +kernel) hq (by decide +kernel) h3, hq.trans (by decide +kernel)⟩
  rw [(enc36 his).1]
  omega
theorem hit37 {w : Int} (hW : W32 w) (hq : w % 128 = 51) (h3 : w / 4096 % 8 = 1) (h7 : w / 33554432 % 128 = 0) : HitT w 37 (w / 128 % 32) (w / 32768 % 32) (w / 1048576 % 32) (0) (0) := by
  have hw := hW
  unfold W32 at hw
  have his : sallyportref3_Is0 37 (w / 128 % 32) (w / 32768 % 32) (w / 1048576 % 32) (0) (0) = true := is37 ⟨by omega, by omega⟩ ⟨by omega, by omega⟩ ⟨by omega, by omega⟩ 
  refine ⟨his, ?_, ins37 hW hq h3 h7, g1t hW (by decide +kernel), g2t hW (by decide +kernel), g3t hW (by decide +kernel), g4_0 hW (by decide +kernel) (by decide +kernel) (by decide +kernel) (by decide +kernel) (by decide +kernel) (by decide +kernel) (by decide +kernel) (by decide +kernel), g5f (by decide +kernel), cnd hW (by decide +kernel) hq (by decide +kernel) h3, hq.trans (by decide +kernel)⟩
  rw [(enc37 his).1]
  omega
theorem hit38 {w : Int} (hW : W32 w) (hq : w % 128 = 51) (h3 : w / 4096 % 8 = 2) (h7 : w / 33554432 % 128 = 0) : HitT w 38 (w / 128 % 32) (w / 32768 % 32) (w / 1048576 % 32) (0) (0) := by
  have hw := hW
  unfold W32 at hw
  have his : sallyportref3_Is0 38 (w / 128 % 32) (w / 32768 % 32) (w / 1048576 % 32) (0) (0) = true := is38 ⟨by omega, by omega⟩ ⟨by omega, by omega⟩ ⟨by omega, by omega⟩ 
  refine ⟨his, ?_, ins38 hW hq h3 h7, g1t hW (by decide +kernel), g2t hW (by decide +kernel), g3t hW (by decide +kernel), g4_0 hW (by decide +kernel) (by decide +kernel) (by decide +kernel) (by decide +kernel) (by decide +kernel) (by decide +kernel) (by decide +kernel) (by decide +kernel), g5f (by decide +kernel), cnd hW (by decide +kernel) hq (by decide +kernel) h3, hq.trans (by decide +kernel)⟩
  rw [(enc38 his).1]
  omega
theorem hit39 {w : Int} (hW : W32 w) (hq : w % 128 = 51) (h3 : w / 4096 % 8 = 3) (h7 : w / 33554432 % 128 = 0) : HitT w 39 (w / 128 % 32) (w / 32768 % 32) (w / 1048576 % 32) (0) (0) := by
  have hw := hW
  unfold W32 at hw
  have his : sallyportref3_Is0 39 (w / 128 % 32) (w / 32768 % 32) (w / 1048576 % 32) (0) (0) = true := is39 ⟨by omega, by omega⟩ ⟨by omega, by omega⟩ ⟨by omega, by omega⟩ 
  refine ⟨his, ?_, ins39 hW hq h3 h7, g1t hW (by decide +kernel), g2t hW (by decide +kernel), g3t hW (by decide +kernel), g4_0 hW (by decide +kernel) (by decide +kernel) (by decide +kernel) (by decide +kernel) (by decide +kernel) (by decide +kernel) (by decide +kernel) (by decide +kernel), g5f (by decide +kernel), cnd hW (by decide +kernel) hq (by decide +kernel) h3, hq.trans (by decide +kernel)⟩
  rw [(enc39 his).1]
  omega
theorem hit40 {w : Int} (hW : W32 w) (hq : w % 128 = 51) (h3 : w / 4096 % 8 = 4) (h7 : w / 33554432 % 128 = 0) : HitT w 40 (w / 128 % 32) (w / 32768 % 32) (w / 1048576 % 32) (0) (0) := by
  have hw := hW
  unfold W32 at hw
  have his : sallyportref3_Is0 40 (w / 128 % 32) (w / 32768 % 32) (w / 1048576 % 32) (0) (0) = true := is40 ⟨by omega, by omega⟩ ⟨by omega, by omega⟩ ⟨by omega, by omega⟩ 
  refine ⟨his, ?_, ins40 hW hq h3 h7, g1t hW (by decide +kernel), g2t hW (by decide +kernel), g3t hW (by decide +kernel), g4_0 hW (by decide +kernel) (by decide +kernel) (by decide +kernel) (by decide +kernel) (by decide +kernel) (by decide +kernel) (by decide +kernel) (by decide +kernel), g5f (by decide +kernel), cnd hW (by decide +kernel) hq (by decide +kernel) h3, hq.trans (by decide +kernel)⟩
  rw [(enc40 his).1]
  omega
theorem hit41 {w : Int} (hW : W32 w) (hq : w % 128 = 51) (h3 : w / 4096 % 8 = 5) (h7 : w / 33554432 % 128 = 0) : HitT w 41 (w / 128 % 32) (w / 32768 % 32) (w / 1048576 % 32) (0) (0) := by
  have hw := hW
  unfold W32 at hw
  have his : sallyportref3_Is0 41 (w / 128 % 32) (w / 32768 % 32) (w / 1048576 % 32) (0) (0) = true := is41 ⟨by omega, by omega⟩ ⟨by omega, by omega⟩ ⟨by omega, by omega⟩ 
  refine ⟨his, ?_, ins41 hW hq h3 h7, g1t hW (by decide +kernel), g2t hW (by decide +kernel), g3t hW (by decide +kernel), g4_0 hW (by decide +kernel) (by decide +kernel) (by decide +kernel) (by decide +kernel) (by decide +kernel) (by decide +kernel) (by decide +kernel) (by decide +kernel), g5f (by decide +kernel), cnd hW (by decide +kernel) hq (by decide +kernel) h3, hq.trans (by decide +kernel)⟩
  rw [(enc41 his).1]
  omega
theorem hit42 {w : Int} (hW : W32 w) (hq : w % 128 = 51) (h3 : w / 4096 % 8 = 5) (h7 : w / 33554432 % 128 = 32) : HitT w 42 (w / 128 % 32) (w / 32768 % 32) (w / 1048576 % 32) (0) (0) := by
  have hw := hW
  unfold W32 at hw
  have his : sallyportref3_Is0 42 (w / 128 % 32) (w / 32768 % 32) (w / 1048576 % 32) (0) (0) = true := is42 ⟨by omega, by omega⟩ ⟨by omega, by omega⟩ ⟨by omega, by omega⟩ 
  refine ⟨his, ?_, ins42 hW hq h3 h7, g1t hW (by decide +kernel), g2t hW (by decide +kernel), g3t hW (by decide +kernel), g4_0 hW (by decide +kernel) (by decide +kernel) (by decide +kernel) (by decide +kernel) (by decide +kernel) (by decide +kernel) (by decide +kernel) (by decide +kernel), g5f (by decide +kernel), cnd hW (by decide +kernel) hq (by decide +kernel) h3, hq.trans (by decide +kernel)⟩
  rw [(enc42 his).1]
  omega
theorem hit43 {w : Int} (hW : W32 w) (hq : w % 128 = 51) (h3 : w / 4096 % 8 = 6) (h7 : w / 33554432 % 128 = 0) : HitT w 43 (w / 128 % 32) (w / 32768 % 32) (w / 1048576 % 32) (0) (0) := by
  have hw := hW
  unfold W32 at hw
  have his : sallyportref3_Is0 43 (w / 128 % 32) (w / 32768 % 32) (w / 1048576 % 32) (0) (0) = true := is43 ⟨by omega, by omega⟩ ⟨by omega, by omega⟩ ⟨by omega, by omega⟩ 
  refine ⟨his, ?_, ins43 hW hq h3 h7, g1t hW (by decide +kernel), g2t hW (by decide +kernel), g3t hW (by decide +kernel), g4_0 hW (by decide +kernel) (by decide +kernel) (by decide +kernel) (by decide +kernel) (by decide +kernel) (by decide +kernel) (by decide +kernel) (by decide +kernel), g5f (by decide +kernel), cnd hW (by decide +kernel) hq (by decide +kernel) h3, hq.trans (by decide +kernel)⟩
  rw [(enc43 his).1]
  omega
theorem hit44 {w : Int} (hW : W32 w) (hq : w % 128 = 51) (h3 : w / 4096 % 8 = 7) (h7 : w / 33554432 % 128 = 0) : HitT w 44 (w / 128 % 32) (w / 32768 % 32) (w / 1048576 % 32) (0) (0) := by
  have hw := hW
  unfold W32 at hw
  have his : sallyportref3_Is0 44 (w / 128 % 32) (w / 32768 % 32) (w / 1048576 % 32) (0) (0) = true := is44 ⟨by omega, by omega⟩ ⟨by omega, by omega⟩ ⟨by omega, by omega⟩ 
  refine ⟨his, ?_, ins44 hW hq h3 h7, g1t hW (by decide +kernel), g2t hW (by decide +kernel), g3t hW (by decide +kernel), g4_0 hW (by decide +kernel) (by decide +kernel) (by decide +kernel) (by decide +kernel) (by decide +kernel) (by decide +kernel) (by decide +kernel) (by decide +kernel), g5f (by decide +kernel), cnd hW (by decide +kernel) hq (by decide +kernel) h3, hq.trans (by decide +kernel)⟩
  rw [(enc44 his).1]
  omega
theorem hit45 {w : Int} (hW : W32 w) (hq : w % 128 = 59) (h3 : w / 4096 % 8 = 0) (h7 : w / 33554432 % 128 = 0) : HitT w 45 (w / 128 % 32) (w / 32768 % 32) (w / 1048576 % 32) (0) (0) := by
  have hw := hW
  unfold W32 at hw
  have his : sallyportref3_Is0 45 (w / 128 % 32) (w / 32768 % 32) (w / 1048576 % 32) (0) (0) = true := is45 ⟨by omega, by omega⟩ ⟨by omega, by omega⟩ ⟨by omega, by omega⟩ 
  refine ⟨his, ?_, ins45 hW hq h3 h7, g1t hW (by decide +kernel), g2t hW (by decide +kernel), g3t hW (by decide +kernel), g4_0 hW (by decide +kernel) (by decide +kernel) (by decide +kernel) (by decide +kernel) (by decide +kernel) (by decide +kernel) (by decide +kernel) (by decide +kernel), g5f (by decide +kernel), cnd hW (by decide +kernel) hq (by decide +kernel) h3, hq.trans (by decide +kernel)⟩
  rw [(enc45 his).1]
  omega
theorem hit46 {w : Int} (hW : W32 w) (hq : w % 128 = 59) (h3 : w / 4096 % 8 = 0) (h7 : w / 33554432 % 128 = 32) : HitT w 46 (w / 128 % 32) (w / 32768 % 32) (w / 1048576 % 32) (0) (0) := by
  have hw := hW
  unfold W32 at hw
  have his : sallyportref3_Is0 46 (w / 128 % 32) (w / 32768 % 32) (w / 1048576 % 32) (0) (0) = true := is46 ⟨by omega, by omega⟩ ⟨by omega, by omega⟩ ⟨by omega, by omega⟩ 
  refine ⟨his, ?_, ins46 hW hq h3 h7, g1t hW (by decide +kernel), g2t hW (by decide +kernel), g3t hW (by decide +kernel), g4_0 hW (by decide +kernel) (by decide +kernel) (by decide +kernel) (by decide +kernel) (by decide +kernel) (by decide +kernel) (by decide +kernel) (by decide +kernel), g5f (by decide +kernel), cnd hW (by decide +kernel) hq (by decide +kernel) h3, hq.trans (by decide +kernel)⟩
  rw [(enc46 his).1]
  omega
theorem hit47 {w : Int} (hW : W32 w) (hq : w % 128 = 59) (h3 : w / 4096 % 8 = 1) (h7 : w / 33554432 % 128 = 0) : HitT w 47 (w / 128 % 32) (w / 32768 % 32) (w / 1048576 % 32) (0) (0) := by
  have hw := hW
  unfold W32 at hw
  have his : sallyportref3_Is0 47 (w / 128 % 32) (w / 32768 % 32) (w / 1048576 % 32) (0) (0) = true := is47 ⟨by omega, by omega⟩ ⟨by omega, by omega⟩ ⟨by omega, by omega⟩ 
  refine ⟨his, ?_, ins47 hW hq h3 h7, g1t hW (by decide +kernel), g2t hW (by decide +kernel), g3t hW (by decide +kernel), g4_0 hW (by decide +kernel) (by decide +kernel) (by decide +kernel) (by decide +kernel) (by decide +kernel) (by decide +kernel) (by decide +kernel) (by decide +kernel), g5f (by decide +kernel), cnd hW (by decide +kernel) hq (by decide +kernel) h3, hq.trans (by decide +kernel)⟩
  rw [(enc47 his).1]
  omega
theorem hit48 {w : Int} (hW : W32 w) (hq : w % 128 = 59) (h3 : w / 4096 % 8 = 5) (h7 : w / 33554432 % 128 = 0) : HitT w 48 (w / 128 % 32) (w / 32768 % 32) (w / 1048576 % 32) (0) (0) := by
  have hw := hW
  unfold W32 at hw
  have his : sallyportref3_Is0 48 (w / 128 % 32) (w / 32768 % 32) (w / 1048576 % 32) (0) (0) = true := is48 ⟨by omega, by omega⟩ ⟨by omega, by omega⟩ ⟨by omega, by omega⟩ 
  refine ⟨his, ?_, ins48 hW hq h3 h7, g1t hW (by decide +kernel), g2t hW (by decide +kernel), g3t hW (by decide +kernel), g4_0 hW (by decide +kernel) (by decide +kernel) (by decide +kernel) (by decide +kernel) (by decide +kernel) (by decide +kernel) (by decide +kernel) (by decide +kernel), g5f (by decide +kernel), cnd hW (by decide +kernel) hq (by decide +kernel) h3, hq.trans (by decide +kernel)⟩
  rw [(enc48 his).1]
  omega
theorem hit49 {w : Int} (hW : W32 w) (hq : w % 128 = 59) (h3 : w / 4096 % 8 = 5) (h7 : w / 33554432 % 128 = 32) : HitT w 49 (w / 128 % 32) (w / 32768 % 32) (w / 1048576 % 32) (0) (0) := by
  have hw := hW
  unfold W32 at hw
  have his : sallyportref3_Is0 49 (w / 128 % 32) (w / 32768 % 32) (w / 1048576 % 32) (0) (0) = true := is49 ⟨by omega, by omega⟩ ⟨by omega, by omega⟩ ⟨by omega, by omega⟩ 
  refine ⟨his, ?_, ins49 hW hq h3 h7, g1t hW (by decide +kernel), g2t hW (by decide +kernel), g3t hW (by decide +kernel), g4_0 hW (by decide +kernel) (by decide +kernel) (by decide +kernel) (by decide +kernel) (by decide +kernel) (by decide +kernel) (by decide +kernel) (by decide +kernel), g5f (by decide +kernel), cnd hW (by decide +kernel) hq (by decide +kernel) h3, hq.trans (by decide +kernel)⟩
  rw [(enc49 his).1]
  omega
theorem hit50 : HitT 267386895 50 0 0 0 0 0 := ⟨by decide +kernel, by decide +kernel, ins50, by decide +kernel, by decide +kernel, by decide +kernel, by decide +kernel, by decide +kernel, by decide +kernel, by decide +kernel⟩
theorem hit51 : HitT 4111 51 0 0 0 0 0 := ⟨by decide +kernel, by decide +kernel, ins51, by decide +kernel, by decide +kernel, by decide +kernel, by decide +kernel, by decide +kernel, by decide +kernel, by decide +kernel⟩
theorem hit52 : HitT 115 52 0 0 0 0 0 := ⟨by decide +kernel, by decide +kernel, ins52, by decide +kernel, by decide +kernel, by decide +kernel, by decide +kernel, by decide +kernel, by decide +kernel, by decide +kernel⟩
theorem hit53 : HitT 1048691 53 0 0 0 0 0 := ⟨by decide +kernel, by decide +kernel, ins53, by decide +kernel, by decide +kernel, by decide +kernel, by decide +kernel, by decide +kernel, by decide +kernel, by decide +kernel⟩
theorem hit54 {w : Int} (hW : W32 w) (hq : w % 128 = 115) (h3 : w / 4096 % 8 = 1) : HitT w 54 (w / 128 % 32) (w / 32768 % 32) (0) (0) (w / 1048576) := by
  have hw := hW
  unfold W32 at hw
  have his : sallyportref3_Is0 54 (w / 128 % 32) (w / 32768 % 32) (0) (0) (w / 1048576) = true := is54 ⟨by omega, by omega⟩ ⟨by omega, by omega⟩ ⟨by omega, by omega⟩ 
  refine ⟨his, ?_, ins54 hW hq h3, g1t hW (by decide +kernel), g2t hW (by decide +kernel), g3f (by decide +kernel), g4_0 hW (by decide +kernel) (by decide +kernel) (by decide +kernel) (by decide +kernel) (by decide +kernel) (by decide +kernel) (by decide +kernel) (by decide +kernel), g5t hW (by decide +kernel), cnd hW (by decide +kernel) hq (by decide +kernel) h3, hq.trans (by decide +kernel)⟩
  rw [(enc54 his).1]
  omega
theorem hit55 {w : Int} (hW : W32 w) (hq : w % 128 = 115) (h3 : w / 4096 % 8 = 2) : HitT w 55 (w / 128 % 32) (w / 32768 % 32) (0) (0) (w / 1048576) := by
  have hw := hW
  unfold W32 at hw
  have his : sallyportref3_Is0 55 (w / 128 % 32) (w / 32768 % 32) (0) (0) (w / 1048576) = true := is55 ⟨by omega, by omega⟩ ⟨by omega, by omega⟩ ⟨by omega, by omega⟩ 
  refine ⟨his, ?_, ins55 hW hq h3, g1t hW (by decide +kernel), g2t hW (by decide +kernel), g3f (by decide +kernel), g4_0 hW (by decide +kernel) (by decide +kernel) (by decide +kernel) (by decide +kernel) (by decide +kernel) (by decide +kernel) (by decide +kernel) (by decide +kernel), g5t hW (by decide +kernel), cnd hW (by decide +kernel) hq (by decide +kernel) h3, hq.trans (by decide +kernel)⟩
  rw [(enc55 his).1]
  omega
theorem hit56 {w : Int} (hW : W32 w) (hq : w % 128 = 115) (h3 : w / 4096 % 8 = 3) : HitT w 56 (w / 128 % 32) (w / 32768 % 32) (0) (0) (w / 1048576) := by
  have hw := hW
  unfold W32 at hw
  have his : sallyportref3_Is0 56 (w / 128 % 32) (w / 32768 % 32) (0) (0) (w / 1048576) = true := is56 ⟨by omega, by omega⟩ ⟨by omega, by omega⟩ ⟨by omega, by omega⟩ 
  refine ⟨his, ?_, ins56 hW hq h3, g1t hW (by decide +kernel), g2t hW (by decide +kernel), g3f (by decide +kernel), g4_0 hW (by decide +kernel) (by decide +kernel) (by decide +kernel) (by decide +kernel) (by decide +kernel) (by decide +kernel) (by decide +kernel) (by decide +kernel), g5t hW (by decide +kernel), cnd hW (by decide +kernel) hq (by decide +kernel) h3, hq.trans (by decide +kernel)⟩
  rw [(enc56 his).1]
  omega
theorem hit57 {w : Int} (hW : W32 w) (hq : w % 128 = 115) (h3 : w / 4096 % 8 = 5) : HitT w 57 (w / 128 % 32) (0) (0) (w / 32768 % 32) (w / 1048576) := by
  have hw := hW
  unfold W32 at hw
  have his : sallyportref3_Is0 57 (w / 128 % 32) (0) (0) (w / 32768 % 32) (w / 1048576) = true := is57 ⟨by omega, by omega⟩ ⟨by omega, by omega⟩ ⟨by omega, by omega⟩ 
  refine ⟨his, ?_, ins57 hW hq h3, g1t hW (by decide +kernel), g2f (by decide +kernel), g3f (by decide +kernel), g4_Ci hW (by decide +kernel) (by decide +kernel) (by decide +kernel) (by decide +kernel) (by decide +kernel) (by decide +kernel) (by decide +kernel), g5t hW (by decide +kernel), cnd hW (by decide +kernel) hq (by decide +kernel) h3, hq.trans (by decide +kernel)⟩
  rw [(enc57 his).1]
  omega
theorem hit58 {w : Int} (hW : W32 w) (hq : w % 128 = 115) (h3 : w / 4096 % 8 = 6) : HitT w 58 (w / 128 % 32) (0) (0) (w / 32768 % 32) (w / 1048576) := by
  have hw := hW
  unfold W32 at hw
  have his : sallyportref3_Is0 58 (w / 128 % 32) (0) (0) (w / 32768 % 32) (w / 1048576) = true := is58 ⟨by omega, by omega⟩ ⟨by omega, by omega⟩ ⟨by omega, by omega⟩ 
  refine ⟨his, ?_, ins58 hW hq h3, g1t hW (by decide +kernel), g2f (by decide +kernel), g3f (by decide +kernel), g4_Ci hW (by decide +kernel) (by decide +kernel) (by decide +kernel) (by decide +kernel) (by decide +kernel) (by decide +kernel) (by decide +kernel), g5t hW (by decide +kernel), cnd hW (by decide +kernel) hq (by decide +kernel) h3, hq.trans (by decide +kernel)⟩
  rw [(enc58 his).1]
  omega
theorem hit59 {w : Int} (hW : W32 w) (hq : w % 128 = 115) (h3 : w / 4096 % 8 = 7) : HitT w 59 (w / 128 % 32) (0) (0) (w / 32768 % 32) (w / 1048576) := by
  have hw := hW
  unfold W32 at hw
  have his : sallyportref3_Is0 59 (w / 128 % 32) (0) (0) (w / 32768 % 32) (w / 1048576) = true := is59 ⟨by omega, by omega⟩ ⟨by omega, by omega⟩ ⟨by omega, by omega⟩ 
  refine ⟨his, ?_, ins59 hW hq h3, g1t hW (by decide +kernel), g2f (by decide +kernel), g3f (by decide +kernel), g4_Ci hW (by decide +kernel) (by decide +kernel) (by decide +kernel) (by decide +kernel) (by decide +kernel) (by decide +kernel) (by decide +kernel), g5t hW (by decide +kernel), cnd hW (by decide +kernel) hq (by decide +kernel) h3, hq.trans (by decide +kernel)⟩
  rw [(enc59 his).1]
  omega
theorem hit60 : HitT 807403635 60 0 0 0 0 0 := ⟨by decide +kernel, by decide +kernel, ins60, by decide +kernel, by decide +kernel, by decide +kernel, by decide +kernel, by decide +kernel, by decide +kernel, by decide +kernel⟩
theorem hit61 : HitT 270532723 61 0 0 0 0 0 := ⟨by decide +kernel, by decide +kernel, ins61, by decide +kernel, by decide +kernel, by decide +kernel, by decide +kernel, by decide +kernel, by decide +kernel, by decide +kernel⟩
theorem hit62 : HitT 273678451 62 0 0 0 0 0 := ⟨by decide +kernel, by decide +kernel, ins62, by decide +kernel, by decide +kernel, by decide +kernel, by decide +kernel, by decide +kernel, by decide +kernel, by decide +kernel⟩
theorem hit63 {w : Int} (hW : W32 w) (hq : w % 128 = 115) (h3 : w / 4096 % 8 = 0) (h7 : w / 33554432 % 128 = 9) (hd : w / 128 % 32 = 0) : HitT w 63 (0) (w / 32768 % 32) (w / 1048576 % 32) (0) (0) := by
  have hw := hW
  unfold W32 at hw
  have his : sallyportref3_Is0 63 (0) (w / 32768 % 32) (w / 1048576 % 32) (0) (0) = true := is63 ⟨by omega, by omega⟩ ⟨by omega, by omega⟩ 
  refine ⟨his, ?_, ins63 hW hq h3 h7 hd, g1f (by decide +kernel), g2t hW (by decide +kernel), g3t hW (by decide +kernel), g4_0 hW (by decide +kernel) (by decide +kernel) (by decide +kernel) (by decide +kernel) (by decide +kernel) (by decide +kernel) (by decide +kernel) (by decide +kernel), g5f (by decide +kernel), cnd hW (by decide +kernel) hq (by decide +kernel) h3, hq.trans (by decide +kernel)⟩
  rw [(enc63 his).1]
  omega
theorem hit64 {w : Int} (hW : W32 w) (hq : w % 128 = 115) (h3 : w / 4096 % 8 = 0) (h7 : w / 33554432 % 128 = 17) (hd : w / 128 % 32 = 0) : HitT w 64 (0) (w / 32768 % 32) (w / 1048576 % 32) (0) (0) := by
  have hw := hW
  unfold W32 at hw
  have his : sallyportref3_Is0 64 (0) (w / 32768 % 32) (w / 1048576 % 32) (0) (0) = true := is64 ⟨by omega, by omega⟩ ⟨by omega, by omega⟩ 
  refine ⟨his, ?_, ins64 hW hq h3 h7 hd, g1f (by decide +kernel), g2t hW (by decide +kernel), g3t hW (by decide +kernel), g4_0 hW (by decide +kernel) (by decide +kernel) (by decide +kernel) (by decide +kernel) (by decide +kernel) (by decide +kernel) (by decide +kernel) (by decide +kernel), g5f (by decide +kernel), cnd hW (by decide +kernel) hq (by decide +kernel) h3, hq.trans (by decide +kernel)⟩
  rw [(enc64 his).1]
  omega
theorem hit65 {w : Int} (hW : W32 w) (hq : w % 128 = 115) (h3 : w / 4096 % 8 = 0) (h7 : w / 33554432 % 128 = 49) (hd : w / 128 % 32 = 0) : HitT w 65 (0) (w / 32768 % 32) (w / 1048576 % 32) (0) (0) := by
  have hw := hW
  unfold W32 at hw
  have his : sallyportref3_Is0 65 (0) (w / 32768 % 32) (w / 1048576 % 32) (0) (0) = true := is65 ⟨by omega, by omega⟩ ⟨by omega, by omega⟩ 
  refine ⟨his, ?_, ins65 hW hq h3 h7 hd, g1f (by decide +kernel), g2t hW (by decide +kernel), g3t hW (by decide +kernel), g4_0 hW (by decide +kernel) (by decide +kernel) (by decide +kernel) (by decide +kernel) (by decide +kernel) (by decide +kernel) (by decide +kernel) (by decide +kernel), g5f (by decide +kernel), cnd hW (by decide +kernel) hq (by decide +kernel) h3, hq.trans (by decide +kernel)⟩
  rw [(enc65 his).1]
  omega
theorem hit66 {w : Int} (hW : W32 w) (hq : w % 128 = 115) (h3 : w / 4096 % 8 = 4) (h7 : w / 33554432 % 128 = 52) (h2 : w / 1048576 % 32 = 0) : HitT w 66 (w / 128 % 32) (w / 32768 % 32) (0) (0) (0) := by
  have hw := hW
  unfold W32 at hw
  have his : sallyportref3_Is0 66 (w / 128 % 32) (w / 32768 % 32) (0) (0) (0) = true := is66 ⟨by omega, by omega⟩ ⟨by omega, by omega⟩ 
  refine ⟨his, ?_, ins66 hW hq h3 h7 h2, g1t hW (by decide +kernel), g2t hW (by decide +kernel), g3f (by decide +kernel), g4_0 hW (by decide +kernel) (by decide +kernel) (by decide +kernel) (by decide +kernel) (by decide +kernel) (by decide +kernel) (by decide +kernel) (by decide +kernel), g5f (by decide +kernel), cnd hW (by decide +kernel) hq (by decide +kernel) h3, hq.trans (by decide +kernel)⟩
  rw [(enc66 his).1]
  omega
theorem hit67 {w : Int} (hW : W32 w) (hq : w % 128 = 115) (h3 : w / 4096 % 8 = 4) (h7 : w / 33554432 % 128 = 54) (h2 : w / 1048576 % 32 = 0) : HitT w 67 (w / 128 % 32) (w / 32768 % 32) (0) (0) (0) := by
  have hw := hW
  unfold W32 at hw
  have his : sallyportref3_Is0 67 (w / 128 % 32) (w / 32768 % 32) (0) (0) (0) = true := is67 ⟨by omega, by omega⟩ ⟨by omega, by omega⟩ 
  refine ⟨his, ?_, ins67 hW hq h3 h7 h2, g1t hW (by decide +kernel), g2t hW (by decide +kernel), g3f (by decide +kernel), g4_0 hW (by decide +kernel) (by decide +kernel) (by decide +kernel) (by decide +kernel) (by decide +kernel) (by decide +kernel) (by decide +kernel) (by decide +kernel), g5f (by decide +kernel), cnd hW (by decide +kernel) hq (by decide +kernel) h3, hq.trans (by decide +kernel)⟩
  rw [(enc67 his).1]
  omega
theorem hit68 {w : Int} (hW : W32 w) (hq : w % 128 = 115) (h3 : w / 4096 % 8 = 4) (h7 : w / 33554432 % 128 = 52) (h2 : w / 1048576 % 32 = 3) : HitT w 68 (w / 128 % 32) (w / 32768 % 32) (0) (0) (0) := by
  have hw := hW
  unfold W32 at hw
  have his : sallyportref3_Is0 68 (w / 128 % 32) (w / 32768 % 32) (0) (0) (0) = true := is68 ⟨by omega, by omega⟩ ⟨by omega, by omega⟩ 
  refine ⟨his, ?_, ins68 hW hq h3 h7 h2, g1t hW (by decide +kernel), g2t hW (by decide +kernel), g3f (by decide +kernel), g4_0 hW (by decide +kernel) (by decide +kernel) (by decide +kernel) (by decide +kernel) (by decide +kernel) (by decide +kernel) (by decide +kernel) (by decide +kernel), g5f (by decide +kernel), cnd hW (by decide +kernel) hq (by decide +kernel) h3, hq.trans (by decide +kernel)⟩
  rw [(enc68 his).1]
  omega
theorem hit69 {w : Int} (hW : W32 w) (hq : w % 128 = 115) (h3 : w / 4096 % 8 = 4) (h7 : w / 33554432 % 128 = 55) (hd : w / 128 % 32 = 0) : HitT w 69 (0) (w / 32768 % 32) (w / 1048576 % 32) (0) (0) := by
  have hw := hW
  unfold W32 at hw
  have his : sallyportref3_Is0 69 (0) (w / 32768 % 32) (w / 1048576 % 32) (0) (0) = true := is69 ⟨by omega, by omega⟩ ⟨by omega, by omega⟩ 
  refine ⟨his, ?_, ins69 hW hq h3 h7 hd, g1f (by decide +kernel), g2t hW (by decide +kernel), g3t hW (by decide +kernel), g4_0 hW (by decide +kernel) (by decide +kernel) (by decide +kernel) (by decide +kernel) (by decide +kernel) (by decide +kernel) (by decide +kernel) (by decide +kernel), g5f (by decide +kernel), cnd hW (by decide +kernel) hq (by decide +kernel) h3, hq.trans (by decide +kernel)⟩
  rw [(enc69 his).1]
  omega
end Go.Proofs.Ytigmhcafampfnaa.PV
