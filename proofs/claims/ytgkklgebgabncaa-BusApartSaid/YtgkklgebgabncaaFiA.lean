/- A file of registers in memory: what it holds, New, find, Load. -/
import Derived.Test.YtgkklgebgabncaaRegE
import Derived.Test.YtgkklgebgabncaaMapQ
import Derived.Test.YtgkklgebgabncaaMapB
import Derived.Test.YtgkklgebgabncaaOnly
import Derived.Laws.StructEq
import Derived.Test.YtgkklgebgabncaaGrow
namespace Go.Proofs.Ytgkklgebgabncaa
open Go.RowKit
set_option linter.unusedVariables false
set_option linter.unusedSimpArgs false

theorem wp_name {P : Program} {c : Code} {Q : Exit → Act → World → Prop} {a : Act} {W : World} {Pr : World → Prop} (h : Pr W) (k : ∀ W', Pr W' → c.wp P Q a W') : c.wp P Q a W := k W h
/-! ### The key -/
def ofK (a : Int) : Value := .agg #[.int .u32 a]
theorem of_fields : Try.prog.fieldsOf 95 = #[{ name := "off", type := 26, offset := 0, embedded := false, tag := "", pkgPath := "minuterie/reg", byteOffset := 0 }] := by unfold Program.fieldsOf; rw [Try.underlying95]
theorem of_eq (a b : Int) (w : World) : (Op.equal 95 (ofK a) (ofK b)).run Try.prog w = .ok (decide (a = b)) w := by
  unfold Op.equal ofK
  rw [show Op.maxDepth = 9999 + 1 from rfl, run_equalIn_agg w 9999 95 _ _ (by rw [of_fields]; exact Try.underlying95) Try.stoodInHeld95, of_fields]
  have hp : ∀ (x : Int) w, (part 26 #[.int .u32 x] 0).run Try.prog w = .ok (.int .u32 x) w := fun x w => run_part_one w 26 .u32 Try.underlying26 _ 0 _ rfl
  simp [Op.eqFields, hp, Sem.run_bind, run_equalIn_int w 9998 26 .u32 .u32 a b Try.underlying26]
  by_cases h : a = b <;> simp [h]
theorem keyEnc_of : KeyEnc Try.prog 95 ofK :=
  keyEnc_ask Try.underlying95 (fun a b => rfl) of_eq (fun e k w => by kernel_rfl) (fun k => by simp [ofK, Instr.sameBits])
/-! ### A register, a file -/
structure Rg where
  v : Int
  r : Int
  wr : Int
  c : Int
def gv (x : Rg) : Value := .agg #[.int .u32 x.v, .int .u32 x.r, .int .u32 x.wr, .int .u32 x.c]
def Rg.ok (x : Rg) : Prop := (0 ≤ x.v ∧ x.v ≤ 4294967295) ∧ (0 ≤ x.r ∧ x.r ≤ 4294967295) ∧ (0 ≤ x.wr ∧ x.wr ≤ 4294967295) ∧ 0 ≤ x.c ∧ x.c ≤ 4294967295
/-- What a file holds: a register at an offset. -/
abbrev Fm := Int → Option Rg
def Fm.put (l : Fm) (off : Int) (x : Rg) : Fm := fun k => if k = off then some x else l k
structure FiIn (w : World) (f fm : Nat) (l : Fm) (M : List (Ent Int)) (c : Nat) : Prop where
  row : RowAt w f #[.map (some fm)] 87
  m : MapAt w fm ofK M c
  ok : MapOk M c
  v : ∀ k, valL k M = (l k).map gv
  rg : ∀ k x, l k = some x → x.ok
  ne : f ≠ fm
def FiAt (w : World) (f fm : Nat) (l : Fm) : Prop := ∃ M c, FiIn w f fm l M c
theorem FiIn.only {w w' : World} {S : Nat → Prop} {f fm : Nat} {l : Fm} {M : List (Ent Int)} {c : Nat} (h : FiIn w f fm l M c) (hb : Only S w w') (h1 : ¬ S f) (h2 : ¬ S fm) : FiIn w' f fm l M c :=
  { h with row := h.row.only hb h1, m := h.m.only hb h2 }
theorem FiIn.ext {w w' : World} {f fm : Nat} {l : Fm} {M : List (Ent Int)} {c : Nat} (h : FiIn w f fm l M c) (hb : Below w.heap.size w w') : FiIn w' f fm l M c :=
  h.only (S := fun _ => False) (only_of hb _) (fun q => q) (fun q => q)
theorem FiAt.only {w w' : World} {S : Nat → Prop} {f fm : Nat} {l : Fm} (h : FiAt w f fm l) (hb : Only S w w') (h1 : ¬ S f) (h2 : ¬ S fm) : FiAt w' f fm l := by
  obtain ⟨M, c, q⟩ := h
  exact ⟨M, c, q.only hb h1 h2⟩
theorem FiAt.ext {w w' : World} {f fm : Nat} {l : Fm} (h : FiAt w f fm l) (hb : Below w.heap.size w w') : FiAt w' f fm l :=
  h.only (S := fun _ => False) (only_of hb _) (fun q => q) (fun q => q)
theorem FiAt.lt {w : World} {f fm : Nat} {l : Fm} (h : FiAt w f fm l) : f < w.heap.size ∧ fm < w.heap.size := by
  obtain ⟨M, c, q⟩ := h
  exact ⟨q.row.lt, q.m.lt⟩
theorem FiIn.put {w : World} {f fm : Nat} {l : Fm} {M : List (Ent Int)} {c : Nat} (h : FiIn w f fm l M c) (off : Int) (x : Rg) (hx : x.ok) :
    FiIn (setB w fm (mapObj ofK (updL off (gv x) c M) (updC off c M))) f fm (l.put off x) (updL off (gv x) c M) (updC off c M) where
  row := h.row.setB _ h.ne
  m := h.m.set _ _
  ok := h.ok.upd _ _
  v k := by
    rw [valL_upd, h.v]
    unfold Fm.put
    by_cases q : k = off <;> simp [q]
  rg k y := by
    unfold Fm.put
    by_cases q : k = off
    · rw [if_pos q]; intro e; injection e with e; exact e ▸ hx
    · rw [if_neg q]; exact h.rg k y
  ne := h.ne
/-- find's answer. -/
def findE (l : Fm) (off : Int) : Int := if ¬ off % 4 = 0 then 11 else match l off with
  | some _ => 0
  | none => 10
def findV (l : Fm) (off : Int) : Rg := if ¬ off % 4 = 0 then ⟨0, 0, 0, 0⟩ else (l off).getD ⟨0, 0, 0, 0⟩
set_option maxHeartbeats 8000000 in
set_option maxRecDepth 100000 in
theorem rnew_any (w : World) :
    Calls Try.prog 10 #[] w fun e w' => ∃ f fm, e = .returned (.pointer (some ⟨f, 0, none⟩)) ∧ w.heap.size ≤ f ∧ w.heap.size ≤ fm ∧ FiAt w' f fm (fun _ => none) ∧ Below w.heap.size w w' := by
  have hmm := @run_makeMap Try.prog
  go_enter Try.func10, Try.ntmps10
  go_wp2_with fail
  go_ret
  exact ⟨w.heap.size + 1, w.heap.size, by simp, by omega, Nat.le_refl _, ⟨[], 0, by have h := RowAt.new (w.alloc (.map #[] 0)) #[.map (some w.heap.size)] 87; simpa using h, (MapAt.new w ofK).alloc _, MapOk.nil, fun k => rfl, fun k x h => (by cases h), by omega⟩, below_new (below_new (Below.refl _ _) _) _⟩
set_option maxHeartbeats 8000000 in
set_option maxRecDepth 100000 in
theorem find_any (f fm : Nat) (l : Fm) (off : Int) (w : World) (hA : FiAt w f fm l) (o0 : 0 ≤ off) (o1 : off ≤ 4294967295) :
    Calls Try.prog 41 #[.pointer (some ⟨f, 0, none⟩), .int .u32 off] w fun e w' => ∃ a b c d, e = .returned (.tuple #[.agg #[.int .u32 a, .int .u32 b, .int .u32 c, .int .u32 d], .int .i64 (findE l off)]) ∧ findV l off = ⟨a, b, c, d⟩ ∧ Below w.heap.size w w' := by
  obtain ⟨M, c, q⟩ := hA
  have r0 : w.cell? ⟨f, 0, none⟩ = some (.map (some fm)) := q.row.cell (i := 0) rfl
  have hfl : f < w.heap.size := q.row.lt
  have HM := Lib.hid q.m
  by_cases h4 : off % 4 = 0
  · have d4 : decide (off % 4 = 0) = true := dec_t h4
    have hv := q.v off
    cases hl : l off with
    | none =>
      rw [hl] at hv
      have HV := Lib.hid hv
      have hE : findE l off = 10 := by simp [findE, h4, hl]
      have hW : findV l off = ⟨0, 0, 0, 0⟩ := by simp [findV, h4, hl]
      rw [hE, hW]
      clear hE hW hv q hl
      go_enter Try.func41, Try.ntmps41
      go_wp2_with (at_lookup; refine wpList_lookup_ok_at rfl (.tmp 19) (.tmp 21) rfl keyEnc_of Try.underlying85 (z := .agg #[.int .u32 0, .int .u32 0, .int .u32 0, .int .u32 0]) (by kernel_rfl) (HM.out.alloc _) rfl off rfl ?_; rw [HV.out]; dsimp only [Option.map, Option.getD, Option.isSome])
      refine bodyPost_ret (v := .tuple #[.agg #[.int .u32 0, .int .u32 0, .int .u32 0, .int .u32 0], .int .i64 10]) (by simp [results, Try.results41, go_sem]) rfl ⟨0, 0, 0, 0, rfl, rfl, ?_⟩
      repeat (first | exact Below.refl _ _ | refine below_new ?_ _ | refine below_set ?_ (by simp) _)
    | some x =>
      obtain ⟨xv, xr, xw, xc⟩ := x
      rw [hl] at hv
      have HV := Lib.hid (show valL off M = some (.agg #[.int .u32 xv, .int .u32 xr, .int .u32 xw, .int .u32 xc]) from hv)
      have hE : findE l off = 0 := by simp [findE, h4, hl]
      have hW : findV l off = ⟨xv, xr, xw, xc⟩ := by simp [findV, h4, hl]
      rw [hE, hW]
      clear hE hW hv q hl
      go_enter Try.func41, Try.ntmps41
      go_wp2_with (at_lookup; refine wpList_lookup_ok_at rfl (.tmp 19) (.tmp 21) rfl keyEnc_of Try.underlying85 (z := .agg #[.int .u32 0, .int .u32 0, .int .u32 0, .int .u32 0]) (by kernel_rfl) (HM.out.alloc _) rfl off rfl ?_; rw [HV.out]; dsimp only [Option.map, Option.getD, Option.isSome])
      refine bodyPost_ret (v := .tuple #[.agg #[.int .u32 xv, .int .u32 xr, .int .u32 xw, .int .u32 xc], .int .i64 0]) (by simp [results, Try.results41, go_sem]) rfl ⟨_, _, _, _, rfl, rfl, ?_⟩
      repeat (first | exact Below.refl _ _ | refine below_new ?_ _ | refine below_set ?_ (by simp) _)
  · have d4 : decide (off % 4 = 0) = false := dec_f h4
    have hE : findE l off = 11 := by simp [findE, h4]
    have hW : findV l off = ⟨0, 0, 0, 0⟩ := by simp [findV, h4]
    rw [hE, hW]
    clear hE hW q
    go_enter Try.func41, Try.ntmps41
    go_wp2_with fail
    refine bodyPost_ret (v := .tuple #[.agg #[.int .u32 0, .int .u32 0, .int .u32 0, .int .u32 0], .int .i64 11]) (by simp [results, Try.results41, go_sem]) rfl ⟨0, 0, 0, 0, rfl, rfl, ?_⟩
    repeat (first | exact Below.refl _ _ | refine below_new ?_ _ | refine below_set ?_ (by simp) _)
set_option maxHeartbeats 8000000 in
set_option maxRecDepth 100000 in
theorem load_any (f fm : Nat) (l : Fm) (off : Int) (w : World) (hA : FiAt w f fm l) (o0 : 0 ≤ off) (o1 : off ≤ 4294967295) :
    Calls Try.prog 14 #[.pointer (some ⟨f, 0, none⟩), .int .u32 off] w fun e w' => e = .returned (.tuple #[.int .u32 (findV l off).v, .int .i64 (findE l off)]) ∧ Below w.heap.size w w' := by
  generalize hF : findV l off = F
  obtain ⟨a, b, c, d⟩ := F
  go_enter Try.func14, Try.ntmps14
  refine wp_start (w := w) ?_
  intro x
  go_wp2_with (go_at_call 41; refine (find_any f fm l off _ (hA.ext x.ok) o0 o1).mono ?_; rintro e wr ⟨a', b', c', d', rfl, hv, hbr⟩; rw [hF] at hv; cases hv; obtain ⟨y, rfl⟩ := Ext.step _ hbr; clear hbr)
  refine bodyPost_ret (v := .tuple #[.int .u32 a, .int .i64 (findE l off)]) (by simp [results, Try.results14, go_sem]) rfl ⟨rfl, ?_⟩
  repeat (first | exact Below.refl _ _ | exact Ext.ok _ | refine below_new ?_ _ | refine below_set ?_ (by simp) _)
end Go.Proofs.Ytgkklgebgabncaa
