/- The handles of a pool. -/
import Derived.Test.YtelnembjcgkiaaaDoorPoM
namespace Go.Proofs.YtelnembjcgkiaaaDoor
open Go.RowKit
set_option linter.unusedVariables false
set_option linter.unusedSimpArgs false
open Go.Shelf Go.Lib Go.Sort
theorem ownsRow_le {w : World} {b1 b2 : Nat} {e : TypeId} {size : Nat} {v : Value} {k : Nat} {xs : List Value} (h : w.ownsRow b2 e size v k xs) (hb : b1 ≤ b2) : w.ownsRow b1 e size v k xs := by
  obtain ⟨h1, h2 | ⟨g, cap, cur, rfl, hb', hg⟩⟩ := h
  · exact ⟨h1, .inl h2⟩
  · exact ⟨h1, .inr ⟨g, cap, cur, rfl, Nat.le_trans hb hb', hg⟩⟩
def lenV : Value → Nat
  | .slice _ n _ => n
  | _ => 0
/-- The places of the entries, rising. -/
structure Places (p : Po) (S : List Int) : Prop where
  nd : S.Nodup
  len : S.length = p.cnt
  mem : ∀ x : Int, x ∈ S ↔ (p.ent x).isSome = true
  srt : S.Pairwise (· ≤ ·)
theorem sorted_pair (zs : List Int) : (sorted zs).Pairwise (· ≤ ·) := by
  have h := List.pairwise_mergeSort (le := fun x y : Int => decide (x ≤ y)) (by intro a b c; simp only [decide_eq_true_eq]; omega) (by intro a b; simp only [Bool.or_eq_true, decide_eq_true_eq]; omega) zs
  exact h.imp (by intro a b h; simpa using h)
theorem sorted_perm (zs : List Int) : (sorted zs).Perm zs := List.mergeSort_perm _ _
theorem places_of {w : World} {b be bo bt : Nat} {p : Po} {M1 : List (Ent Int)} {c1 : Nat} {M2 : List (Ent Int)} {c2 : Nat} {ws : List Int} (q : PoIn w b be bo bt p M1 c1 M2 c2 ws) {done : List (Ent Int)} (h : done.Perm M1) : Places p (sorted (done.map (·.1))) := by
  have hp : (sorted (done.map (·.1))).Perm (M1.map (·.1)) := (sorted_perm _).trans (h.map _)
  refine ⟨hp.nodup_iff.2 q.ok1.keys, by rw [hp.length_eq, List.length_map, q.len], fun x => ?_, sorted_pair _⟩
  rw [hp.mem_iff]
  have hv := q.v1 x
  constructor
  · intro hx
    cases he : p.ent x with
    | some y => rfl
    | none =>
      rw [he] at hv
      obtain ⟨e, he1, he2⟩ := List.mem_map.1 hx
      exact absurd he2 (valL_none.1 hv e he1)
  · intro hx
    apply Classical.byContradiction
    intro hn
    have : valL x M1 = none := valL_none.2 fun e he he2 => hn (List.mem_map.2 ⟨e, he, he2⟩)
    rw [this] at hv
    cases he : p.ent x with
    | some y => rw [he] at hv; cases hv
    | none => rw [he] at hx; cases hx
set_option maxHeartbeats 8000000 in
set_option maxRecDepth 100000 in
theorem handles_any (b be bo bt : Nat) (p : Po) (w : World) (hA : PoAt w b be bo bt p) (ok : p.ok) :
    Calls Tryd.prog 28 #[.pointer (some ⟨b, 0, none⟩)] w fun e w' => ∃ S v, e = .returned v ∧ Places p S ∧ w'.ownsRow w.heap.size 23 1 v S.length (S.map fun x => .int .u64 (hv p x)) ∧ Below w.heap.size w w' := by
  obtain ⟨M1, c1, M2, c2, ws, q⟩ := hA
  have c0 : w.cell? ⟨b, 0, none⟩ = some (.map (some be)) := q.row.cell (i := 0) rfl
  have hcnt : M1.length ≤ 4096 := by
    have h1 := q.len
    have h2 := cntB_le p.tk p.room
    have h3 := ok.r2
    unfold Po.cnt at h1
    omega
  have HQ := Lib.hid q
  have HC := Lib.hid hcnt
  clear q hcnt
  go_enter Tryd.func28, Tryd.ntmps28
  go_wp2_with (at_range; refine wpList_range_at rfl (.tmp 13) 66 71 32 rfl Tryd.underlying66 rfl HQ.out.m1 ?_; intro w1 hit hb1; go_frame)
  have HI := Lib.hid hit
  have HB1 := Lib.hid hb1
  clear hit hb1
  go_loopw [3] (fun v wr => ∃ done : List (Ent Int), wr.ownsRow (w.heap.size + 1) 3 1 v done.length (done.map fun p => .int .i64 p.1) ∧ IterAt wr w.heap.size be c1 M1 done ∧ Below w.heap.size w wr) (fun v _ => M1.length - lenV v)
  case atStart => exact ⟨[], World.ownsRow_nil _ _ _ _, HI.out, HB1.out⟩
  case round =>
    clear HI HB1
    obtain ⟨done, hown, hit, hB⟩ := hrel
    have HO := Lib.hid hown
    have HIT := Lib.hid hit
    have HB := Lib.hid hB
    clear hown hit hB
    go_wp2_with (at_next; refine wpList_next_at rfl (.tmp 14) rfl rfl (HQ.out.ext HB.out).m1 HQ.out.ok1 HIT.out ?_ ?_)
    · intro hperm
      have HPL := Lib.hid (places_of HQ.out hperm)
      have hlen := hperm.length_eq
      have hml : (done.map (·.1)).length = done.length := List.length_map _
      have hown' : wr.ownsRow (w.heap.size + 1) 3 1 u3 (done.map (·.1)).length ((done.map (·.1)).map (Value.int .i64)) := by
        rw [hml, List.map_map]
        exact HO.out
      have HOW := Lib.hid hown'
      have hl9 : (done.map (·.1)).length ≤ 1000000000 := by have := HC.out; omega
      clear hperm hown'
      obtain ⟨S, hS⟩ : ∃ S, sorted (done.map (·.1)) = S := ⟨_, rfl⟩
      rw [hS] at HPL
      go_upto_region 9 with (go_at_call 39; refine (sort_own _ _ _ _ HOW.out hl9).mono ?_; rintro e w3 ⟨rfl, hI3, hO3⟩)
      rw [hS] at hI3
      have hb3 := Only.below HB.out hO3 (fun k hk => by have := (ownsRow_base HO.out k hk.symm).1; omega) HB.out.size
      refine wp_name (Pr := fun W => IntsAt W (w.heap.size + 1) u3 S ∧ Below w.heap.size w W) ⟨hI3, hb3⟩ ?_
      clear HOW hl9 hlen hml hS HO HIT HB hI3 hO3 hb3
      rintro W ⟨hI, hB⟩
      have HI := Lib.hid hI
      have HB := Lib.hid hB
      obtain ⟨sa, cap, rfl, _⟩ := id hI
      clear hI hB
      have HP := Lib.hid (show PoAt w b be bo bt p from ⟨M1, c1, M2, c2, ws, HQ.out⟩)
      clear HQ HC
      have hSl : S.length ≤ 4096 := by
        have h1 := HPL.out.len
        have h2 := cntB_le p.tk p.room
        have h3 := ok.r2
        unfold Po.cnt at h1
        omega
      go_upto_region 11 with fail
      go_loopw [5, 28] (fun out iv wr => ∃ i : Nat, i ≤ S.length ∧ iv = .int .i64 i ∧ wr.ownsRow W.heap.size 23 1 out i ((S.take i).map fun x => .int .u64 (hv p x)) ∧ Below W.heap.size W wr) (fun _ iv _ => S.length - (intOf iv).toNat)
      case atStart => exact ⟨0, by omega, rfl, World.ownsRow_nil _ _ _ _, Below.refl _ _⟩
      case round =>
        obtain ⟨i, hi, rfl, hown, hBr⟩ := hrel
        have HO := Lib.hid hown
        have HBR := Lib.hid hBr
        clear hown hBr
        by_cases hlt : i < S.length
        · obtain ⟨a', cap', hae, hac⟩ := HI.out
          obtain ⟨g, ha, hg0, hg1, hcell⟩ := hac (by omega)
          injection hae with e1 e2 e3
          rw [← e1] at ha
          clear hac e1 e3
          subst ha
          obtain ⟨x, hx⟩ : ∃ x, S[i]? = some x := ⟨_, List.getElem?_eq_getElem hlt⟩
          have c5 : wr.cell? ⟨g, i, none⟩ = some (.int .i64 x) := (HBR.out.cell hg1).trans (hcell i x hx)
          have hxr := ok.inr x ((HPL.out.mem x).1 (List.mem_of_getElem? hx))
          have x0 : 0 ≤ x := hxr.1
          have x1 : x < 4096 := by have := ok.r2; omega
          have t0 : decide ((i : Int) < (S.length : Int)) = true := dec_t (by omega)
          have w64 : wrap64 ((i : Int) + 1) = (i : Int) + 1 := by unfold wrap64; omega
          have HPR := Lib.hid (HP.out.ext (below_then HB.out HBR.out))
          have HXX := Lib.hid hx
          have HZ := Lib.hid (show i ≤ 1000000000 by omega)
          clear hcell hg0 hg1 hx hxr
          go_upto_region 14 with (first
            | (go_at_call 32; refine (handle_any b be bo bt p _ HPR.out ok x x0 x1).mono ?_; rintro e w4 ⟨rfl, hb4⟩; have HO4 := Lib.hid (ownsRow_only HO.out (only_of hb4 fun _ => False) (fun _ _ h => h)); have HB4 := Lib.hid (below_then HBR.out hb4); have HY := Lib.hid HB4.out.size; clear hb4)
            | (at_builtin; refine wpList_grow1_at rfl (.tmp 32) (.tmp 37) 28 rfl W.heap.size 23 1 8 Tryd.underlying28 (by kernel_rfl) (by decide) (by decide) _ _ _ rfl HO4.out [.int .u64 (hv p x)] rfl (by first | (go_simp; done) | (simp; done)) (by intro u hu; simp only [List.mem_cons, List.not_mem_nil, or_false] at hu; subst hu; rfl) HZ.out HY.out _ ?_; intro v' w5 hown5 hO5 hat5; have HO5 := Lib.hid hown5; have HB5 := Lib.hid (Only.below HB4.out hO5 (fun k hk => (ownsRow_base HO4.out k hk.symm).1) HB4.out.size); clear hown5 hO5 hat5))
          go_wp2_with fail
          go_roundw
          case measure => simp only [intOf]; omega
          case rel =>
            refine ⟨i + 1, by omega, by simp, ?_, HB5.out⟩
            have e : S.take (i + 1) = S.take i ++ [x] := by
              first | rw [List.take_add_one, HXX.out] | rw [List.take_succ, HXX.out]
              rfl
            rw [e, List.map_append]
            exact HO5.out
        · obtain rfl : i = S.length := by omega
          have t0 : decide ((S.length : Int) < (S.length : Int)) = false := dec_f (by omega)
          go_wp2_with fail
          go_ret
          refine ⟨S, _, rfl, HPL.out, ?_, below_then HB.out HBR.out⟩
          have h1 := HO.out
          rw [List.take_length] at h1
          exact ownsRow_le h1 HB.out.size
    · intro k u st hin hnin w2 hit2 ho2 hen
      unfold pl at hen
      have hbase := ownsRow_base HO.out
      have hown2 := ownsRow_only HO.out ho2 (fun g hg => by have := (hbase g hg).1; omega)
      have hB2 := Only.below HB.out ho2 (fun k hk => by omega) HB.out.size
      have hlt : done.length < M1.length := by
        have h1 : (done ++ [(k, u, st)]).length ≤ M1.length := nodup_le (nodup_of_map hit2.nd) hit2.sub
        rw [List.length_append, List.length_singleton] at h1
        omega
      have HO2 := Lib.hid hown2
      have HB2 := Lib.hid hB2
      have HIT2 := Lib.hid hit2
      have HLT := Lib.hid hlt
      clear hown2 hB2 hit2 ho2 hin hnin hbase hlt
      have HZ := Lib.hid (show done.length ≤ 1000000000 by have := HC.out; have := HLT.out; omega)
      have HY := Lib.hid (show w.heap.size + 1 ≤ (w2.alloc (.cells #[.int .i64 k] 71)).heap.size by have := HB2.out.size; simp; omega)
      have HX := Lib.hid (HO2.out.alloc (.cells #[Value.int IntKind.i64 k] 71))
      go_wp2_with (at_builtin; refine wpList_grow1_at rfl (.tmp 19) (.tmp 22) 22 rfl (w.heap.size + 1) 3 1 8 Tryd.underlying22 (by kernel_rfl) (by decide) (by decide) _ _ _ rfl HX.out [.int .i64 k] rfl (by first | (go_simp; done) | (simp; done)) (by intro u hu; simp only [List.mem_cons, List.not_mem_nil, or_false] at hu; subst hu; rfl) HZ.out HY.out _ ?_; intro v' w3 hown3 ho3 hat3)
      go_roundw
      case measure =>
        obtain ⟨a1, c1, e1⟩ := own_slice HO2.out
        obtain ⟨a2, c2, e2⟩ := own_slice hown3
        rw [e1, e2]
        have := HLT.out
        simp only [lenV]
        omega
      case rel =>
        refine ⟨done ++ [(k, u, st)], ?_, ?_, ?_⟩
        · rw [List.length_append, List.length_singleton, List.map_append]
          exact hown3
        · exact (HIT2.out.ext (below_new (Below.refl _ _) _)).only ho3 (fun h => by have := (ownsRow_base HO2.out _ h.symm).1; omega)
        · exact Only.below (below_new HB2.out _) ho3 (fun k hk => by have := (ownsRow_base HO2.out _ hk.symm).1; omega) (by have := HB2.out.size; simp; omega)
end Go.Proofs.YtelnembjcgkiaaaDoor
