/- The law's plain, the document's Same walked. -/
import Derived.Test.YtbkchniomhdieaaLine
namespace Go.Proofs.Ytbkchniomhdieaa
open Go.RowKit Go.Bz

theorem app47 : AppT Try.prog 47 28 8 8 (dv d0) := ⟨Try.underlying47, by kernel_rfl, rfl, by decide⟩
set_option maxHeartbeats 1000000 in
theorem plain_any {w : World} {v : Value} {l : List D8} (hs : Sl w 29 8 dcells v l) (hl : l.length ≤ 5000) :
    Calls Try.prog 20 #[v] w (fun e w' => ∃ v', e = .returned v' ∧ Own w' w.heap.size 28 8 dcells v' l ∧ Keep [] w w') := by
  obtain ⟨A, cap, rfl, hc1, hc2, hc3⟩ := hs
  go_enter Try.func20, Try.ntmps20
  go_wp2_with fail
  go_loopg [3, 4] l.length (fun n v i wr => ∃ k : Nat, i = .int .i64 k ∧ n + k = l.length ∧ Own wr w.heap.size 28 8 dcells v (l.take k) ∧ Keep [] w wr)
  case atStart => exact ⟨0, rfl, rfl, by simpa using Own.nil .., Keep.refl _ _⟩
  case round =>
    obtain ⟨k, rfl, hk, hown, hK⟩ := hrel
    by_cases hlt : k < l.length
    · obtain ⟨g, o, rfl, hsl⟩ := hc3 (by intro e; rw [e] at hlt; simp at hlt)
      obtain ⟨x, hx⟩ : ∃ x, l[k]? = some x := ⟨_, List.getElem?_eq_getElem hlt⟩
      have hrow := (hsl.keep hK (by simp)).row hx
      have htk : l.take (k + 1) = l.take k ++ [x] := by rw [List.take_add_one, hx]; rfl
      have HL := Lib.hid (And.intro hk (And.intro htk hx))
      have hlk : (l.take k).length = k := by rw [List.length_take]; omega
      have hsz := hK.size
      clear hk htk hx hsl
      go_wp2_with (first
        | (at_builtin; refine wpList_append1 rfl _ _ 47 rfl app47 rfl (hown.alloc _) rfl (Blk.new_ rfl) rfl (dc_one _) ?q1 ?q2 ?q3 ?q4))
      case q1 => omega
      case q2 => unfold maxLen; omega
      case q3 => simp; omega
      case q4 =>
        intro v' w' hown2 hk2
        have hk3 := ((Keep.refl (ownB u3) wr).alloc (.cells (dcells x) 28)).trans hk2
        have e1 : ∀ g ∈ ownB u3, w.heap.size ≤ g := fun g hg => (hown.lt g hg).1
        clear hk2
        go_wp2_with fail
        obtain ⟨hk, htk, _⟩ := HL.out
        go_roundg (l.length - (k + 1))
        case measure => omega
        case rel => exact ⟨k + 1, by go_num, by omega, by rw [htk]; exact hown2, hK.andThen hk3 (fun g hg => .inr (e1 g hg))⟩
    · go_wp2_with fail
      go_ret
      have : l.take k = l := List.take_of_length_le (by omega)
      rw [this] at hown
      exact ⟨_, rfl, hown, hK⟩
set_option maxHeartbeats 1000000 in
theorem same_eq {w : World} {A A' : Option Addr} {n cap cap' : Nat} {l l' : List D8} (hn : l.length = n) (hn' : l'.length = n) (hb : n ≤ 9223372036854775807)
    (hs : l ≠ [] → ∃ g o, A = some ⟨g, o, none⟩ ∧ SlAt w 28 8 dcells g o l) (hs' : l' ≠ [] → ∃ g o, A' = some ⟨g, o, none⟩ ∧ SlAt w 28 8 dcells g o l') :
    Calls Try.prog 19 #[.slice A n cap, .slice A' n cap'] w (fun e w' => e = .returned (.bool (decide (l = l'))) ∧ Keep [] w w') := by
  go_enter Try.func19, Try.ntmps19
  go_wp2_with fail
  go_loopg [5] n (fun m i wr => ∃ k : Nat, i = .int .i64 k ∧ m + k = n ∧ Hid (l.take k = l'.take k) ∧ Keep [] w wr)
  case atStart => exact ⟨0, rfl, rfl, Lib.hid (by simp), Keep.refl _ _⟩
  case round =>
    obtain ⟨k, rfl, hk, HT, hK⟩ := hrel
    by_cases hlt : k < n
    · obtain ⟨g, o, rfl, hsl⟩ := hs (by intro e; rw [e] at hn; simp at hn; omega)
      obtain ⟨g', o', rfl, hsl'⟩ := hs' (by intro e; rw [e] at hn'; simp at hn'; omega)
      obtain ⟨x, hx⟩ : ∃ x, l[k]? = some x := ⟨_, List.getElem?_eq_getElem (by omega)⟩
      obtain ⟨y, hy⟩ : ∃ y, l'[k]? = some y := ⟨_, List.getElem?_eq_getElem (by omega)⟩
      have r1 := (hsl.keep hK (by simp)).drew.at8 hx
      have r2 := (hsl'.keep hK (by simp)).drew.at8 hy
      have HX := Lib.hid (And.intro (And.intro hn hn') (And.intro hx hy))
      have heq := fun W => run_eqD8 (P := Try.prog) W dt28 9998 x y
      have HK := Lib.hid hk
      clear hk hx hy hsl hsl' hn hn' hs hs'
      by_cases hxy : x = y
      · rw [decide_eq_true hxy] at heq
        have HE := Lib.hid hxy
        clear hxy
        go_wp2_with fail
        refine wp_region_noPanic ?_
        refine Bz.wp_region_E (S := (fun w' => At8 w' g (o + k * 8) x ∧ At8 w' g' (o' + k * 8) y)) (E := []) (by kernel_rfl) (by exact ⟨r1, r2⟩) (fun hHeld => ?_)
        refine Bz.wpAnyE_take (i := 0) (oi := { dst := some 17, op := Go.Op.move (Go.Operand.tmp 0), type := 47, pos := "ref.go:104", after := #[], guard := none }) (v := ?_) rfl (by kernel_rfl) (by kernel_rfl) (by kernel_rfl) (by kernel_rfl) (fun _ _ _ h => h) (Or.inl ⟨by rfl, ?_⟩) hHeld ?_
        rotate_left 1
        · (intro w hSw; simp only [At8] at hSw; go_simp; first | done | with_reducible rfl)
        try simp only [Act.put, List.setIfInBounds_toArray, List.set_cons_zero, List.set_cons_succ]
        refine Bz.wpAnyE_take (i := 1) (oi := { dst := some 18, op := Go.Op.move (Go.Operand.tmp 5), type := 3, pos := "ref.go:104", after := #[], guard := none }) (v := ?_) rfl (by kernel_rfl) (by kernel_rfl) (by kernel_rfl) (by kernel_rfl) (fun _ _ _ h => h) (Or.inl ⟨by rfl, ?_⟩) hHeld ?_
        rotate_left 1
        · (intro w hSw; simp only [At8] at hSw; go_simp; first | done | with_reducible rfl)
        try simp only [Act.put, List.setIfInBounds_toArray, List.set_cons_zero, List.set_cons_succ]
        refine Bz.wpAnyE_take (i := 2) (oi := { dst := some 19, op := Go.Op.indexAddr 47 (Go.Operand.tmp 17) (Go.Operand.tmp 18), type := 0, pos := "ref.go:104", after := #[{ on := 0, ground := Go.Ground.data }, { on := 1, ground := Go.Ground.data }], guard := none }) (v := ?_) rfl (by kernel_rfl) (by kernel_rfl) (by kernel_rfl) (by kernel_rfl) (fun _ _ _ h => h) (Or.inl ⟨by rfl, ?_⟩) hHeld ?_
        rotate_left 1
        · (intro w hSw; simp only [At8] at hSw; go_simp; first | done | with_reducible rfl)
        try simp only [Act.put, List.setIfInBounds_toArray, List.set_cons_zero, List.set_cons_succ]
        refine Bz.wpAnyE_take (i := 3) (oi := { dst := some 20, op := Go.Op.load 28 (Go.Operand.tmp 19), type := 28, pos := "ref.go:104", after := #[{ on := 2, ground := Go.Ground.data }], guard := none }) (v := ?_) rfl (by kernel_rfl) (by kernel_rfl) (by kernel_rfl) (by kernel_rfl) (fun _ _ _ h => h) (Or.inl ⟨by rfl, ?_⟩) hHeld ?_
        rotate_left 1
        · (intro w hSw; simp only [At8] at hSw; go_simp; first | done | with_reducible rfl)
        try simp only [Act.put, List.setIfInBounds_toArray, List.set_cons_zero, List.set_cons_succ]
        refine Bz.wpAnyE_take (i := 4) (oi := { dst := some 21, op := Go.Op.move (Go.Operand.tmp 1), type := 47, pos := "ref.go:104", after := #[], guard := none }) (v := ?_) rfl (by kernel_rfl) (by kernel_rfl) (by kernel_rfl) (by kernel_rfl) (fun _ _ _ h => h) (Or.inl ⟨by rfl, ?_⟩) hHeld ?_
        rotate_left 1
        · (intro w hSw; simp only [At8] at hSw; go_simp; first | done | with_reducible rfl)
        try simp only [Act.put, List.setIfInBounds_toArray, List.set_cons_zero, List.set_cons_succ]
        refine Bz.wpAnyE_take (i := 5) (oi := { dst := some 22, op := Go.Op.move (Go.Operand.tmp 5), type := 3, pos := "ref.go:104", after := #[], guard := none }) (v := ?_) rfl (by kernel_rfl) (by kernel_rfl) (by kernel_rfl) (by kernel_rfl) (fun _ _ _ h => h) (Or.inl ⟨by rfl, ?_⟩) hHeld ?_
        rotate_left 1
        · (intro w hSw; simp only [At8] at hSw; go_simp; first | done | with_reducible rfl)
        try simp only [Act.put, List.setIfInBounds_toArray, List.set_cons_zero, List.set_cons_succ]
        refine Bz.wpAnyE_take (i := 6) (oi := { dst := some 23, op := Go.Op.indexAddr 47 (Go.Operand.tmp 21) (Go.Operand.tmp 22), type := 0, pos := "ref.go:104", after := #[{ on := 4, ground := Go.Ground.data }, { on := 5, ground := Go.Ground.data }], guard := none }) (v := ?_) rfl (by kernel_rfl) (by kernel_rfl) (by kernel_rfl) (by kernel_rfl) (fun _ _ _ h => h) (Or.inl ⟨by rfl, ?_⟩) hHeld ?_
        rotate_left 1
        · (intro w hSw; simp only [At8] at hSw; go_simp; first | done | with_reducible rfl)
        try simp only [Act.put, List.setIfInBounds_toArray, List.set_cons_zero, List.set_cons_succ]
        refine Bz.wpAnyE_take (i := 7) (oi := { dst := some 24, op := Go.Op.load 28 (Go.Operand.tmp 23), type := 28, pos := "ref.go:104", after := #[{ on := 6, ground := Go.Ground.data }], guard := none }) (v := ?_) rfl (by kernel_rfl) (by kernel_rfl) (by kernel_rfl) (by kernel_rfl) (fun _ _ _ h => h) (Or.inl ⟨by rfl, ?_⟩) hHeld ?_
        rotate_left 1
        · (intro w hSw; simp only [At8] at hSw; go_simp; first | done | with_reducible rfl)
        try simp only [Act.put, List.setIfInBounds_toArray, List.set_cons_zero, List.set_cons_succ]
        refine Bz.wpAnyE_take (i := 8) (oi := { dst := some 25, op := Go.Op.binOp Go.BinOp.neq 28 (Go.Operand.tmp 20) (Go.Operand.tmp 24) 28, type := 4, pos := "ref.go:104", after := #[{ on := 3, ground := Go.Ground.data }, { on := 7, ground := Go.Ground.data }], guard := none }) (v := ?_) rfl (by kernel_rfl) (by kernel_rfl) (by kernel_rfl) (by kernel_rfl) (fun _ _ _ h => h) (Or.inl ⟨by rfl, ?_⟩) hHeld ?_
        rotate_left 1
        · (intro w hSw; simp only [At8] at hSw; go_simp; first | done | with_reducible rfl)
        try simp only [Act.put, List.setIfInBounds_toArray, List.set_cons_zero, List.set_cons_succ]
        refine Bz.wpAnyE_done (by kernel_rfl) ?_ _
        refine NoPanic.normal ?_
        
        clear hHeld
        go_wp2_with fail
        obtain ⟨_, hx, hy⟩ := HX.out
        have hk := HK.out
        go_roundg (n - (k + 1))
        case measure => omega
        case rel => exact ⟨k + 1, by go_num, by omega, Lib.hid (by rw [List.take_add_one, List.take_add_one, hx, hy, HT.out, HE.out]), hK.drew⟩
      · rw [decide_eq_false hxy] at heq
        have HE := Lib.hid hxy
        clear hxy
        go_wp2_with fail
        refine wp_region_noPanic ?_
        refine Bz.wp_region_E (S := (fun w' => At8 w' g (o + k * 8) x ∧ At8 w' g' (o' + k * 8) y)) (E := []) (by kernel_rfl) (by exact ⟨r1, r2⟩) (fun hHeld => ?_)
        refine Bz.wpAnyE_take (i := 0) (oi := { dst := some 17, op := Go.Op.move (Go.Operand.tmp 0), type := 47, pos := "ref.go:104", after := #[], guard := none }) (v := ?_) rfl (by kernel_rfl) (by kernel_rfl) (by kernel_rfl) (by kernel_rfl) (fun _ _ _ h => h) (Or.inl ⟨by rfl, ?_⟩) hHeld ?_
        rotate_left 1
        · (intro w hSw; simp only [At8] at hSw; go_simp; first | done | with_reducible rfl)
        try simp only [Act.put, List.setIfInBounds_toArray, List.set_cons_zero, List.set_cons_succ]
        refine Bz.wpAnyE_take (i := 1) (oi := { dst := some 18, op := Go.Op.move (Go.Operand.tmp 5), type := 3, pos := "ref.go:104", after := #[], guard := none }) (v := ?_) rfl (by kernel_rfl) (by kernel_rfl) (by kernel_rfl) (by kernel_rfl) (fun _ _ _ h => h) (Or.inl ⟨by rfl, ?_⟩) hHeld ?_
        rotate_left 1
        · (intro w hSw; simp only [At8] at hSw; go_simp; first | done | with_reducible rfl)
        try simp only [Act.put, List.setIfInBounds_toArray, List.set_cons_zero, List.set_cons_succ]
        refine Bz.wpAnyE_take (i := 2) (oi := { dst := some 19, op := Go.Op.indexAddr 47 (Go.Operand.tmp 17) (Go.Operand.tmp 18), type := 0, pos := "ref.go:104", after := #[{ on := 0, ground := Go.Ground.data }, { on := 1, ground := Go.Ground.data }], guard := none }) (v := ?_) rfl (by kernel_rfl) (by kernel_rfl) (by kernel_rfl) (by kernel_rfl) (fun _ _ _ h => h) (Or.inl ⟨by rfl, ?_⟩) hHeld ?_
        rotate_left 1
        · (intro w hSw; simp only [At8] at hSw; go_simp; first | done | with_reducible rfl)
        try simp only [Act.put, List.setIfInBounds_toArray, List.set_cons_zero, List.set_cons_succ]
        refine Bz.wpAnyE_take (i := 3) (oi := { dst := some 20, op := Go.Op.load 28 (Go.Operand.tmp 19), type := 28, pos := "ref.go:104", after := #[{ on := 2, ground := Go.Ground.data }], guard := none }) (v := ?_) rfl (by kernel_rfl) (by kernel_rfl) (by kernel_rfl) (by kernel_rfl) (fun _ _ _ h => h) (Or.inl ⟨by rfl, ?_⟩) hHeld ?_
        rotate_left 1
        · (intro w hSw; simp only [At8] at hSw; go_simp; first | done | with_reducible rfl)
        try simp only [Act.put, List.setIfInBounds_toArray, List.set_cons_zero, List.set_cons_succ]
        refine Bz.wpAnyE_take (i := 4) (oi := { dst := some 21, op := Go.Op.move (Go.Operand.tmp 1), type := 47, pos := "ref.go:104", after := #[], guard := none }) (v := ?_) rfl (by kernel_rfl) (by kernel_rfl) (by kernel_rfl) (by kernel_rfl) (fun _ _ _ h => h) (Or.inl ⟨by rfl, ?_⟩) hHeld ?_
        rotate_left 1
        · (intro w hSw; simp only [At8] at hSw; go_simp; first | done | with_reducible rfl)
        try simp only [Act.put, List.setIfInBounds_toArray, List.set_cons_zero, List.set_cons_succ]
        refine Bz.wpAnyE_take (i := 5) (oi := { dst := some 22, op := Go.Op.move (Go.Operand.tmp 5), type := 3, pos := "ref.go:104", after := #[], guard := none }) (v := ?_) rfl (by kernel_rfl) (by kernel_rfl) (by kernel_rfl) (by kernel_rfl) (fun _ _ _ h => h) (Or.inl ⟨by rfl, ?_⟩) hHeld ?_
        rotate_left 1
        · (intro w hSw; simp only [At8] at hSw; go_simp; first | done | with_reducible rfl)
        try simp only [Act.put, List.setIfInBounds_toArray, List.set_cons_zero, List.set_cons_succ]
        refine Bz.wpAnyE_take (i := 6) (oi := { dst := some 23, op := Go.Op.indexAddr 47 (Go.Operand.tmp 21) (Go.Operand.tmp 22), type := 0, pos := "ref.go:104", after := #[{ on := 4, ground := Go.Ground.data }, { on := 5, ground := Go.Ground.data }], guard := none }) (v := ?_) rfl (by kernel_rfl) (by kernel_rfl) (by kernel_rfl) (by kernel_rfl) (fun _ _ _ h => h) (Or.inl ⟨by rfl, ?_⟩) hHeld ?_
        rotate_left 1
        · (intro w hSw; simp only [At8] at hSw; go_simp; first | done | with_reducible rfl)
        try simp only [Act.put, List.setIfInBounds_toArray, List.set_cons_zero, List.set_cons_succ]
        refine Bz.wpAnyE_take (i := 7) (oi := { dst := some 24, op := Go.Op.load 28 (Go.Operand.tmp 23), type := 28, pos := "ref.go:104", after := #[{ on := 6, ground := Go.Ground.data }], guard := none }) (v := ?_) rfl (by kernel_rfl) (by kernel_rfl) (by kernel_rfl) (by kernel_rfl) (fun _ _ _ h => h) (Or.inl ⟨by rfl, ?_⟩) hHeld ?_
        rotate_left 1
        · (intro w hSw; simp only [At8] at hSw; go_simp; first | done | with_reducible rfl)
        try simp only [Act.put, List.setIfInBounds_toArray, List.set_cons_zero, List.set_cons_succ]
        refine Bz.wpAnyE_take (i := 8) (oi := { dst := some 25, op := Go.Op.binOp Go.BinOp.neq 28 (Go.Operand.tmp 20) (Go.Operand.tmp 24) 28, type := 4, pos := "ref.go:104", after := #[{ on := 3, ground := Go.Ground.data }, { on := 7, ground := Go.Ground.data }], guard := none }) (v := ?_) rfl (by kernel_rfl) (by kernel_rfl) (by kernel_rfl) (by kernel_rfl) (fun _ _ _ h => h) (Or.inl ⟨by rfl, ?_⟩) hHeld ?_
        rotate_left 1
        · (intro w hSw; simp only [At8] at hSw; go_simp; first | done | with_reducible rfl)
        try simp only [Act.put, List.setIfInBounds_toArray, List.set_cons_zero, List.set_cons_succ]
        refine Bz.wpAnyE_done (by kernel_rfl) ?_ _
        refine NoPanic.normal ?_
        
        clear hHeld
        go_wp2_with fail
        go_ret
        have : decide (l = l') = false := by
          obtain ⟨_, hx, hy⟩ := HX.out
          simp
          intro e
          rw [e, hy] at hx
          exact HE.out (Option.some.inj hx).symm
        rw [this]
        exact ⟨rfl, hK.drew⟩
    · go_wp2_with fail
      go_ret
      have : l = l' := by
        have := HT.out
        rwa [List.take_of_length_le (by omega), List.take_of_length_le (by omega)] at this
      rw [decide_eq_true this]
      exact ⟨rfl, hK⟩
theorem same_any {w : World} {v v' : Value} {l l' : List D8} (hs : Sl w 28 8 dcells v l) (hs' : Sl w 28 8 dcells v' l') :
    Calls Try.prog 19 #[v, v'] w (fun e w' => e = .returned (.bool (decide (l = l'))) ∧ Keep [] w w') := by
  obtain ⟨A, cap, rfl, hc1, hc2, hc3⟩ := hs
  obtain ⟨A', cap', rfl, hd1, hd2, hd3⟩ := hs'
  unfold maxLen at hc2 hd2
  by_cases hlen : l.length = l'.length
  · rw [hlen]
    exact same_eq hlen rfl (by omega) hc3 hd3
  · have : decide (l = l') = false := by simp; intro e; exact hlen (by rw [e])
    rw [this]
    have hne : ((l.length : Int) != (l'.length : Int)) = true := by simp; omega
    clear this hlen hc3 hd3
    go_enter Try.func19, Try.ntmps19
    go_wp2_with fail
    go_ret
    exact ⟨rfl, Keep.refl _ _⟩
end Go.Proofs.Ytbkchniomhdieaa
