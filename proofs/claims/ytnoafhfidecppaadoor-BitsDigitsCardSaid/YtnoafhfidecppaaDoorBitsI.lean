/- The walks of the laws BitsDigits and BitsTop. -/
import Derived.Test.YtnoafhfidecppaaDoorBitsH
namespace Go.Proofs.YtnoafhfidecppaaDoor
open Go.RowKit
set_option linter.unusedVariables false
set_option linter.unusedSimpArgs false

theorem top_comm (a b : Int) : topI b a = topI a b := by
  unfold topI
  rw [show (dgl b == dgl a) = (dgl a == dgl b) from BEq.comm,
    show (b / 281474976710656 != a / 281474976710656) = (a / 281474976710656 != b / 281474976710656) from bne_comm,
    show (b / 4398046511104 % 64 != a / 4398046511104 % 64) = (a / 4398046511104 % 64 != b / 4398046511104 % 64) from bne_comm,
    show (b / 68719476736 % 64 != a / 68719476736 % 64) = (a / 68719476736 % 64 != b / 68719476736 % 64) from bne_comm,
    show (b / 1073741824 % 64 != a / 1073741824 % 64) = (a / 1073741824 % 64 != b / 1073741824 % 64) from bne_comm,
    show (b / 16777216 % 64 != a / 16777216 % 64) = (a / 16777216 % 64 != b / 16777216 % 64) from bne_comm,
    show (b / 262144 % 64 != a / 262144 % 64) = (a / 262144 % 64 != b / 262144 % 64) from bne_comm,
    show (b / 4096 % 64 != a / 4096 % 64) = (a / 4096 % 64 != b / 4096 % 64) from bne_comm,
    show (b / 64 % 64 != a / 64 % 64) = (a / 64 % 64 != b / 64 % 64) from bne_comm]
set_option maxHeartbeats 4000000 in
set_option maxRecDepth 100000 in
theorem BitsDigits_walk (a b l d : Int) (w : World) (hT : Tab w) (h0 : 0 ≤ a) (h1 : a ≤ 18446744073709551615) (k0 : 0 ≤ b) (k1 : b ≤ 18446744073709551615)
    (l0 : -9223372036854775808 ≤ l) (l1 : l ≤ 9223372036854775807) (d0 : -9223372036854775808 ≤ d) (d1 : d ≤ 9223372036854775807) :
    Calls Tryd.prog 3 #[.int .u64 a, .int .u64 b, .int .i64 l, .int .i64 d] w fun e w' => e = .returned (.bool true) ∧ Below w.heap.size w w' := by
  have tc := top_comm a b
  have HT := Lib.hid hT
  clear hT
  go_enter Tryd.func3, Tryd.ntmps3
  refine wp_start ?_
  intro x
  go_wp2_with (first | (go_at_call 10; refine (known01 _ (HT.out.at _)).mono ?_; rintro e wr ⟨rfl, hbr⟩; obtain ⟨y, rfl⟩ := Ext.step _ hbr; clear hbr) | (go_at_call 11; refine (digit_any _ _ _ h0 h1).mono ?_; rintro e wr ⟨rfl, hbr⟩; obtain ⟨y, rfl⟩ := Ext.step _ hbr; clear hbr) | (go_at_call 12; refine (rdigit_any _ _ _ h0 h1).mono ?_; rintro e wr ⟨rfl, hbr⟩; obtain ⟨y, rfl⟩ := Ext.step _ hbr; clear hbr) | (go_at_call 13; refine (with_any _ _ _ _ h0 h1).mono ?_; rintro e wr ⟨rfl, hbr⟩; obtain ⟨y, rfl⟩ := Ext.step _ hbr; clear hbr) | (go_at_call 14; refine (rwith_any _ _ _ _ h0 h1).mono ?_; rintro e wr ⟨rfl, hbr⟩; obtain ⟨y, rfl⟩ := Ext.step _ hbr; clear hbr) | (go_at_call 15; refine (top_any _ _ _ (by omega) (by omega) (by omega) (by omega)).mono ?_; rintro e wr ⟨rfl, hbr⟩; obtain ⟨y, rfl⟩ := Ext.step _ hbr; clear hbr) | (go_at_call 16; refine (rtop_any _ _ _ h0 h1 k0 k1).mono ?_; rintro e wr ⟨rfl, hbr⟩; obtain ⟨y, rfl⟩ := Ext.step _ hbr; clear hbr))
  go_ret
  exact ⟨rfl, Ext.ok _⟩
end Go.Proofs.YtnoafhfidecppaaDoor
