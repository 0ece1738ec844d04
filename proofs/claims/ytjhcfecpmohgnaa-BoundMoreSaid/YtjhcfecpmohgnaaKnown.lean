/- The chapter's examples, walked. -/
import Derived.Test.YtjhcfecpmohgnaaBlock
import Derived.Test.YtjhcfecpmohgnaaRounds
namespace Go.Proofs.Ytjhcfecpmohgnaa
open Go.RowKit Go.Bz

theorem name_any (s : ByteArray) (w : World) : Calls Try.prog 16 #[.string s] w (fun e w' => e = .returned (.agg #[.int .i64 1, .int .i64 0, .string s, .slice none 0 0]) ∧ Keep [] w w') := by
  go_enter Try.func16, Try.ntmps16
  go_wp2_with fail
  exact bodyPost_ret (v := .agg #[.int .i64 1, .int .i64 0, .string s, .slice none 0 0]) (by simp [results, Try.results16, go_sem]) rfl ⟨rfl, (Keep.refl _ _).alloc _⟩
theorem number_any (n : Int) (w : World) : Calls Try.prog 17 #[.int .i64 n] w (fun e w' => e = .returned (.agg #[.int .i64 0, .int .i64 n, .string ⟨#[]⟩, .slice none 0 0]) ∧ Keep [] w w') := by
  go_enter Try.func17, Try.ntmps17
  go_wp2_with fail
  exact bodyPost_ret (v := .agg #[.int .i64 0, .int .i64 n, .string ⟨#[]⟩, .slice none 0 0]) (by simp [results, Try.results17, go_sem]) rfl ⟨rfl, (Keep.refl _ _).alloc _⟩
/-- Two expressions that have just been laid. -/
theorem ExL.two {w : World} {g h : Nat} {ty : TypeId} {r q : ERaw} (hb : Blk w g ty (eenc r ++ eenc q)) (hx : ExL w h r.L r.ds) (hy : ExL w h q.L q.ds) : ExL w (h + 1) (.slice (some ⟨g, 0, none⟩) 2 2) [r.c, q.c] :=
  ⟨[r, q], ⟨_, 2, rfl, Nat.le_refl _, by decide, fun _ => ⟨g, 0, rfl, hb.lt, fun i y hi j hj => by
    rw [hb.cell]
    match i, hi with
    | 0, hi =>
      simp at hi; subst hi
      match j, hj with
      | 0, _ => rfl
      | 1, _ => rfl
      | 2, _ => rfl
      | 3, _ => rfl
    | 1, hi =>
      simp at hi; subst hi
      match j, hj with
      | 0, _ => rfl
      | 1, _ => rfl
      | 2, _ => rfl
      | 3, _ => rfl⟩⟩, by simpa using ⟨hx, hy⟩, rfl⟩
theorem i64_00 : I64 0 ∧ I64 0 := by unfold I64; decide
theorem i64_13 : I64 1 ∧ I64 3 := by unfold I64; decide
set_option maxRecDepth 100000 in
theorem known_any (w : World) : Calls Try.prog 10 #[] w (fun e w' => e = .returned (.bool true) ∧ Keep [] w w') := by
  have mk : True := trivial
  go_enter Try.func10, Try.ntmps10
  go_upto_region 3 with (first
    | (go_at_call 16; clear mk; refine (name_any _ _).mono ?_; rintro e w4 ⟨rfl, hk4⟩)
    | (go_at_call 16; refine (name_any _ _).mono ?_; rintro e w5 ⟨rfl, hk5⟩)
    | (go_at_call 17; refine (number_any _ _).mono ?_; rintro e w6 ⟨rfl, hk6⟩)
    | fail)
  obtain ⟨wa, hwa⟩ : ∃ W, W = ((w6.alloc (Obj.cells #[Value.int IntKind.i64 1, Value.int IntKind.i64 0, Value.string { data := #[97] }, Value.slice none 0 0, Value.int IntKind.i64 0, Value.int IntKind.i64 1, Value.string { data := #[] }, Value.slice none 0 0] 35)).alloc
      (Obj.cells #[Value.int IntKind.i64 8, Value.int IntKind.i64 0, Value.string { data := #[] }, Value.slice (some { block := w6.heap.size, off := 0 }) 2 2] 35)).alloc
      (Obj.cells #[Value.int IntKind.i64 0, Value.string { data := #[120] }, Value.slice (some { block := w6.heap.size + 1, off := 0 }) 1 1, Value.int IntKind.i64 0, Value.int IntKind.i64 0, Value.slice none 0 0, Value.slice none 0 0] 28) := ⟨_, rfl⟩
  have b1 : Blk wa w6.heap.size 35 (eenc ⟨1, 0, ⟨#[97]⟩, .slice none 0 0, []⟩ ++ eenc ⟨0, 1, ⟨#[]⟩, .slice none 0 0, []⟩) := by rw [hwa]; exact ((Blk.new _ _ _).alloc _).alloc _
  have b2 : Blk wa (w6.heap.size + 1) 35 (eenc ⟨8, 0, ⟨#[]⟩, .slice (some ⟨w6.heap.size, 0, none⟩) 2 2, [1, 1]⟩) := by rw [hwa]; exact (Blk.new_ (by simp)).alloc _
  have b3 : Blk wa (w6.heap.size + 1 + 1) 28 (senc ⟨0, ⟨#[120]⟩, .slice (some ⟨w6.heap.size + 1, 0, none⟩) 1 1, 0, 0, .slice none 0 0, .slice none 0 0, [4], [], []⟩) := by rw [hwa]; exact Blk.new_ (by simp)
  have e1 := ExL.two b1 (ExL.nil wa 0) (ExL.nil wa 0)
  have e2 := ExL.one b2 e1
  have e3 := StL.one b3 i64_00 e2 (StL.nil wa 0) (StL.nil wa 0)
  have ka : Keep [] w wa := by rw [hwa]; exact (((hk4.trans hk6).alloc _).alloc _).alloc _
  rw [← hwa] at hk5
  clear hwa b1 b2 b3
  have ha := fun W (hk : Keep [] w5 W) => block_any (e3.keep (hk5.trans hk))
  have hca : bcost [(⟨0, ⟨#[120]⟩, .slice (some ⟨w6.heap.size + 1, 0, none⟩) 1 1, 0, 0, .slice none 0 0, .slice none 0 0, [4], [], []⟩ : SRaw).c] = 7 := rfl
  rw [hca] at ha
  have k5 := ka.trans hk5
  clear e1 e2 e3 ka hk4 hk5 hk6 hca
  obtain ⟨wb, hwb⟩ : ∃ W, W = (((w5.alloc (Obj.cells #[Value.int IntKind.i64 1, Value.int IntKind.i64 0, Value.string { data := #[105] }, Value.slice none 0 0] 35)).alloc
      (Obj.cells #[Value.int IntKind.i64 0, Value.string { data := #[120] }, Value.slice (some { block := w5.heap.size, off := 0 }) 1 1, Value.int IntKind.i64 0, Value.int IntKind.i64 0, Value.slice none 0 0, Value.slice none 0 0] 28)).alloc
      (Obj.cells #[Value.int IntKind.i64 3, Value.string { data := #[105] }, Value.slice none 0 0, Value.int IntKind.i64 1, Value.int IntKind.i64 3, Value.slice (some { block := w5.heap.size + 1, off := 0 }) 1 1, Value.slice none 0 0] 28)) := ⟨_, rfl⟩
  have b1 : Blk wb w5.heap.size 35 (eenc ⟨1, 0, ⟨#[105]⟩, .slice none 0 0, []⟩) := by rw [hwb]; exact ((Blk.new _ _ _).alloc _).alloc _
  have b2 : Blk wb (w5.heap.size + 1) 28 (senc ⟨0, ⟨#[120]⟩, .slice (some ⟨w5.heap.size, 0, none⟩) 1 1, 0, 0, .slice none 0 0, .slice none 0 0, [1], [], []⟩) := by rw [hwb]; exact (Blk.new_ (by simp)).alloc _
  have b3 : Blk wb (w5.heap.size + 1 + 1) 28 (senc ⟨3, ⟨#[105]⟩, .slice none 0 0, 1, 3, .slice (some ⟨w5.heap.size + 1, 0, none⟩) 1 1, .slice none 0 0, [], [4], []⟩) := by rw [hwb]; exact Blk.new_ (by simp)
  have e1 := ExL.one b1 (ExL.nil wb 0)
  have e2 := StL.one b2 i64_00 e1 (StL.nil wb 0) (StL.nil wb 0)
  have e3 := StL.one b3 i64_13 (ExL.nil wb 0) e2 (StL.nil wb 1)
  have kb : Keep [] w5 wb := by rw [hwb]; exact (((Keep.refl _ _).alloc _).alloc _).alloc _
  rw [← hwb]
  clear hwb b1 b2 b3
  have hb := fun W (hk : Keep [] wb W) => block_any (e3.keep hk)
  have hcb : bcost [(⟨3, ⟨#[105]⟩, .slice none 0 0, 1, 3, .slice (some ⟨w5.heap.size + 1, 0, none⟩) 1 1, .slice none 0 0, [], [4], []⟩ : SRaw).c] = 27 := rfl
  rw [hcb] at hb
  have ha := fun W (hk : Keep [] wb W) => ha W (kb.trans hk)
  have kw := k5.trans kb
  clear e1 e2 e3 hcb k5 kb
  have mk : True := trivial
  go_wp2_with (first
    | (go_at_call 12; clear mk; refine (ha _ (Keep.refl _ _)).mono ?_; rintro e w7 ⟨rfl, hk7⟩)
    | (go_at_call 12; refine (hb _ hk7).mono ?_; rintro e w8 ⟨rfl, hk8⟩)
    | (go_at_call 8; refine (rounds5 _).mono ?_; rintro e w9 ⟨rfl, rfl⟩)
    | fail)
  go_ret
  exact ⟨rfl, (kw.trans hk7).trans hk8⟩
end Go.Proofs.Ytjhcfecpmohgnaa
