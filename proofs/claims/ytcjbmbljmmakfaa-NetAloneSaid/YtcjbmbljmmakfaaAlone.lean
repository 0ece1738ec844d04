/- NetAlone walked. -/
import Derived.Test.YtcjbmbljmmakfaaAlone1
import Derived.Test.YtcjbmbljmmakfaaBoth
import Derived.Test.YtcjbmbljmmakfaaTold
namespace Go.Proofs.Ytcjbmbljmmakfaa
open Go.RowKit Go.Bz

/-- A Send to the first of two nets, of a string's bytes. -/
theorem two_send {w0 w : World} {t1 m1 t2 m2 : Nat} {X Y : NS} {R1 B1 R2 B2 : List Nat} (h : Two w0 w t1 m1 X R1 B1 t2 m2 Y R2 B2) (hWF : X.WF) (hnow : X.now ≤ 1000000) (hnext : X.next ≤ 1000000) (f dst : Int) (s : ByteArray) (hs : s.size ≤ 100) {L : Value} {l : List Int} (hL : RdV w0 1 ienc L l) :
    Calls Try.prog 13 #[.pointer (some ⟨t1, 0, none⟩), .agg #[.int .i64 f, .int .i64 dst, .slice (some ⟨w.heap.size, 0, none⟩) s.size (grownCap w s.size 0 5)], .agg #[L]] (Lib.bytesWorld w 5 s)
      (fun e w' => e = .returned (.int .i64 (X.err f dst (strB s).length l)) ∧ ∃ R' B', Two w0 w' t1 m1 (X.send f dst (strB s) l) R' B' t2 m2 Y R2 B2 ∧ (∀ g, g < w.heap.size → g ∈ t1 :: m1 :: R' → g ∈ t1 :: m1 :: R1) ∧ Keep (t1 :: m1 :: R1) w w') := by
  obtain ⟨hb, hk⟩ := bytes_rd w s hs
  have h2 := h.keep0 hk
  refine (send_any h2.n1 hWF hnow hnext (f := f) (dst := dst) hb (fun _ g hg hm => ?_) (hL.keep0 h2.k) (fun hne g hg hm => ?_)).mono ?_
  · simp [ownB, Value.ownBlock] at hg
    have := h.n1.all_lt g hm
    omega
  · have h3 := h.o1 g hm
    have h4 := hL.lt hne g hg
    omega
  · rintro e w' ⟨rfl, R', B', hN, hR, hB, hkk⟩
    refine ⟨rfl, R', B', h2.first hN hR hkk, fun g hg hm => ?_, hk.sub.trans hkk⟩
    simp only [List.mem_cons] at hm ⊢
    rcases hm with hm | hm | hm
    · exact .inl hm
    · exact .inr (.inl hm)
    · rcases hR g hm with h5 | h5
      · exact .inr (.inr h5)
      · have := hk.size; omega
theorem come_len {S : NS} {outs : List LRaw} (h : S.WF) (ho : outs.map LRaw.lt = S.come.map Cp.lt) : outs.length ≤ 5000 := by
  have e1 := congrArg List.length ho
  rw [List.length_map, List.length_map] at e1
  have e2 := h.at_len S.now
  have e3 : S.come.length ≤ (S.at_ S.now).length := List.length_filter_le _ _
  omega
theorem mine_lt (a b : Int) {o1 o3 : List LRaw} {l1 l3 : List Lt} (h1 : o1.map LRaw.lt = l1) (h3 : o3.map LRaw.lt = l3) (h : l3 = l1.filter (Lt.mine a b)) : (o1.filter (LRaw.mine a b)).map LRaw.lt = o3.map LRaw.lt := by
  rw [h3, h, ← h1, List.filter_map]
  rfl
theorem sub2 {a b : Nat} {R : List Nat} {w w' : World} (h : Keep [a, b] w w') : Keep (a :: b :: R) w w' := h.mono (fun x _ hx => by simp at hx ⊢; rcases hx with rfl | rfl <;> simp)
theorem sub1 {a b : Nat} {R : List Nat} {w w' : World} (h : Keep [a] w w') : Keep (a :: b :: R) w w' := h.mono (fun x _ hx => by simp at hx ⊢; subst hx; simp)
set_option maxRecDepth 100000 in
set_option maxHeartbeats 4000000 in
theorem alone_any {w : World} {V : Value} {D : List Deed} (h : DsAt w V D) (x y : Int) (hx : 0 ≤ x ∧ x ≤ 255) (hy : 0 ≤ y ∧ y ≤ 255) :
    Calls Try.prog 8 #[V, .int .u8 x, .int .u8 y] w (fun e w' => e = .returned (.bool true) ∧ Keep [] w w') := by
  have hf := fair_any h
  obtain ⟨A, cap, rfl, hc1, hc2, _⟩ := id h.rd
  unfold maxLen at hc2
  go_enter Try.func8, Try.ntmps8
  go_upto_region 3 with (first
    | (go_at_call 16; refine hf.mono ?_; rintro e w1 ⟨⟨b, rfl, hF⟩, hk1⟩; cases b)
    | (go_at_call 12; refine (told_any _).mono ?_; rintro e w2 ⟨rfl, hk2⟩)
    | fail)
  · go_wp2_with fail
    go_ret
    exact ⟨rfl, hk1.trans hk2⟩
  have hF : D.length ≤ 60 ∧ ∀ d ∈ D, d.s.size ≤ 100 ∧ d.l.length ≤ 20 := hF trivial
  have h1 := h.keep0 hk1
  have mk : True := trivial
  go_upto_region 6 with (first
    | (go_at_call 11; clear mk; refine (new_any 3 _ (by decide)).mono ?_; rintro e w2 ⟨t1, m1, rfl, ht1, hm1, hN1, hk2⟩)
    | (go_at_call 11; refine (new_any 3 _ (by decide)).mono ?_; rintro e w3 ⟨t2, m2, rfl, ht2, hm2, hN2, hk3⟩)
    | fail)
  have hlt1 := hN1.lt
  have h2 : Two w1 w3 t1 m1 (NS.new 3) [] [] t2 m2 (NS.new 3) [] [] := by
    refine ⟨hN1.keep0 hk3, hN2, ?_, ?_, ?_, hk2.trans hk3⟩
    · intro g hg hm
      simp at hg hm
      omega
    · intro g hg
      simp at hg
      rcases hg with rfl | rfl <;> assumption
    · intro g hg
      have := hk2.size
      simp at hg
      rcases hg with rfl | rfl <;> omega
  obtain ⟨a, ha⟩ : ∃ a, a = x % 3 := ⟨_, rfl⟩
  obtain ⟨b, hb⟩ : ∃ b, b = y % 3 := ⟨_, rfl⟩
  have ha2 : 0 ≤ a ∧ a ≤ 2 := by omega
  have hb2 : 0 ≤ b ∧ b ≤ 2 := by omega
  rw [← ha, ← hb]
  clear ha hb hx hy hlt1 ht1 hm1 ht2 hm2 hN1 hN2 hk2 hk3
  go_wp2_with fail
  go_loopg [13] D.length (fun m i wr => ∃ (k : Nat) (X Y : NS) (R1 B1 R2 B2 : List Nat), i = .int .i64 k ∧ m + k = D.length ∧ Two w1 wr t1 m1 X R1 B1 t2 m2 Y R2 B2 ∧ Hid (AloneS X Y a b k))
  case atStart => exact ⟨0, _, _, [], [], [], [], rfl, rfl, h2, Lib.hid (AloneS.new a b)⟩
  case round =>
    clear h2
    obtain ⟨k, X, Y, R1, B1, R2, B2, rfl, hk, hT, HA⟩ := hrel
    by_cases hlt : k < D.length
    · obtain ⟨d, hd⟩ : ∃ d, D[k]? = some d := ⟨_, List.getElem?_eq_getElem hlt⟩
      obtain ⟨ab, ao, cp, hv, hab, hcl⟩ := dAt h1.rd hd
      cases hv
      obtain ⟨hL, hLs, hw⟩ := h1.each d (List.mem_of_getElem? hd)
      obtain ⟨hs, hll⟩ := hF.2 d (List.mem_of_getElem? hd)
      have hk60 : k ≤ 60 := by have := hF.1; omega
      have f0 : wr.cell? ⟨ab, ao + k * 5, none⟩ = some (.int .u8 d.w) ∧ wr.cell? ⟨ab, ao + k * 5 + 1, none⟩ = some (.int .i64 d.a) ∧ wr.cell? ⟨ab, ao + k * 5 + 2, none⟩ = some (.int .i64 d.b) ∧ wr.cell? ⟨ab, ao + k * 5 + 3, none⟩ = some (.string d.s) ∧ wr.cell? ⟨ab, ao + k * 5 + 4, none⟩ = some d.L :=
        ⟨hT.k.cell hcl.1 (by simp), hT.k.cell hcl.2.1 (by simp), hT.k.cell hcl.2.2.1 (by simp), hT.k.cell hcl.2.2.2.1 (by simp), hT.k.cell hcl.2.2.2.2 (by simp)⟩
      obtain ⟨AL, cL, hL', _⟩ := id hL
      obtain ⟨dw, da, db, ds, L, l⟩ := d
      simp only at f0 hL' hL hLs hw hs hll
      subst hL'
      clear hd hcl
      have HK := Lib.hid hk
      clear hk
      go_upto_region 12 with fail
      obtain ⟨w4, hw4⟩ : ∃ W, W = wr.alloc (.cells #[.int .u8 dw, .int .i64 da, .int .i64 db, .string ds, .slice AL l.length cL] 58) := ⟨_, rfl⟩
      have hk4 : Keep [] wr w4 := by rw [hw4]; exact (Keep.refl _ _).alloc _
      have Bd : Blk w4 wr.heap.size 58 #[.int .u8 dw, .int .i64 da, .int .i64 db, .string ds, .slice AL l.length cL] := by rw [hw4]; exact Blk.new _ _ _
      have hT := hT.keep0 hk4
      rw [← hw4]
      clear hw4 hk4 f0
      obtain ⟨bd, HBd⟩ : ∃ g, Hid (g = wr.heap.size) := ⟨_, Lib.hid rfl⟩
      rw [← HBd.out] at Bd ⊢
      have c0 := Bd.cell
      obtain ⟨mi, HM⟩ : ∃ mi : Bool, Hid (mi = (decide (da = a) && decide (db = b))) := ⟨_, Lib.hid rfl⟩
      go_cut [15] (fun v wx => v = .bool mi ∧ wx = w4)
      case first =>
        by_cases h1 : da = a
        · have h1' : (da == a) = true := by simp [h1]
          by_cases h2 : db = b
          · have h2' : (db == b) = true := by simp [h2]
            have hm : mi = true := by rw [HM.out]; simp [h1, h2]
            clear h1 h2
            go_wp2_with fail
            go_meet
            exact ⟨by rw [hm], rfl⟩
          · have h2' : (db == b) = false := by simp [h2]
            have hm : mi = false := by rw [HM.out]; simp [h2]
            clear h1 h2
            go_wp2_with fail
            go_meet
            exact ⟨by rw [hm], rfl⟩
        · have h1' : (da == a) = false := by simp [h1]
          have hm : mi = false := by rw [HM.out]; simp [h1]
          clear h1
          go_wp2_with fail
          go_meet
          exact ⟨by rw [hm], rfl⟩
      case rest =>
        obtain ⟨rfl, rfl⟩ := hcut
        obtain ⟨w4, rfl⟩ : ∃ W, W = wc := ⟨_, rfl⟩
        have hmi : ∀ {S S' : NS}, (if da = a ∧ db = b then S else S') = (if mi = true then S else S') := by
          intro S S'
          rw [HM.out]
          by_cases h1 : da = a
          · by_cases h2 : db = b
            · simp [h1, h2]
            · simp [h2]
          · simp [h1]
        have hcv := fun W => Lib.run_convert_string_bytes (P := Try.prog) W 9 33 5 ds Try.underlying9 Try.underlying33 Try.underlying5
        have n1 := hT.n1.notIn Bd (by decide) (by decide)
        have n2 := hT.n2.notIn Bd (by decide) (by decide)
        have hnk := HA.out.nowk
        have hnx := HA.out.nx
        have hny := HA.out.ny
        have hnow := HA.out.now
        have h4 : dw % 4 = 0 ∨ dw % 4 = 1 ∨ dw % 4 = 2 ∨ dw % 4 = 3 := by omega
        go_upto_region 17 with fail
        rcases h4 with h4 | h4 | h4
        · have hS := HA.out.send hk60 da db (strB ds) l (by rw [strB_len]; exact hs)
          rw [hmi] at hS
          have s1 := two_send hT HA.out.wx (by omega) (by omega) da db ds hs hL
          have c1 := (Bd.keep (bytes_rd w4 ds hs).2 (by simp)).cell
          go_upto_region 19 with (first
            | (go_at_call 13; refine s1.mono ?_; rintro e w5 ⟨rfl, R1', B1', hT5, hR5, hk5⟩)
            | fail)
          have Bd5 := Bd.keep hk5 n1
          clear c0 c1 s1
          have c5 := Bd5.cell
          cases mi with
          | false =>
            have hS' := Lib.hid hS
            clear hS hmi HM
            go_wp2_with fail
            go_roundg (D.length - (k + 1))
            case measure => have := HK.out; omega
            case rel => exact ⟨k + 1, _, Y, R1', B1', R2, B2, by go_num, by have := HK.out; omega, hT5, Lib.hid (by simpa using hS'.out)⟩
          | true =>
            have hS' := Lib.hid hS
            have s2 := two_send hT5.swap HA.out.wy (by omega) (by omega) da db ds hs hL
            have c6 := (Bd5.keep (bytes_rd w5 ds hs).2 (by simp)).cell
            clear hS hmi HM
            go_wp2_with (first
              | (go_at_call 13; refine s2.mono ?_; rintro e w6 ⟨rfl, R2', B2', hT6, _, _⟩)
              | fail)
            go_roundg (D.length - (k + 1))
            case measure => have := HK.out; omega
            case rel => exact ⟨k + 1, _, _, R1', B1', R2', B2', by go_num, by have := HK.out; omega, hT6.swap, Lib.hid (by simpa using hS'.out)⟩
        · have hS := Lib.hid HA.out.step
          have hcm := HA.out.come
          have hsx : ∀ c ∈ X.at_ X.now, c.b.length ≤ 65536 := fun c hc => Nat.le_trans (NS.bytes_of (HA.out.small _) c hc) (by decide)
          have hsy : ∀ c ∈ Y.at_ Y.now, c.b.length ≤ 65536 := fun c hc => Nat.le_trans (NS.bytes_of (fun z hz => by rw [HA.out.lts] at hz; exact HA.out.small _ z (List.mem_filter.1 hz).1) c hc) (by decide)
          have hny2 : Y.now ≤ 1000000 := by omega
          have hnx2 : X.now ≤ 1000000 := by omega
          have mk : True := trivial
          clear hmi HM hcv
          have HNow := Lib.hid hnow
          clear hnow
          go_upto_region 22 with fail
          go_wp2_with (first
            | (go_at_call 14; clear mk; refine (step_any hT.n1 HA.out.wx hnx2 hsx).mono ?_; rintro e w5 ⟨v1, o1, rfl, hC1, ho1, hN5, hk5⟩; have hT := hT.first hN5 (fun g hg => .inl hg) (sub2 hk5); have hl1 := come_len HA.out.wx ho1; have hrd1 := (hC1.own.sl lenc_sz).rd; have hby1 := hC1.bytes; have hsl1 : ∀ x ∈ o1, ∃ A n c, x.V = .slice A n c := (fun x hx => by obtain ⟨A9, c9, h9, _⟩ := (hby1 x hx).sl benc_sz; exact ⟨_, _, _, h9⟩); obtain ⟨A1, c1, rfl, _⟩ := hC1.own.sl lenc_sz; clear hC1)
            | (go_at_call 20; refine (some_any hrd1 hsl1 hl1 a b).mono ?_; rintro e w6 ⟨v2, rfl, hO2, hk6⟩; have hT := hT.keep0 hk6; have hby1 := (fun x hx => (hby1 x hx).keep0 hk6); obtain ⟨A2, c2, rfl, _⟩ := hO2.sl lenc_sz)
            | (go_at_call 14; refine (step_any hT.n2 HA.out.wy hny2 hsy).mono ?_; rintro e w7 ⟨v3, o3, rfl, hC3, ho3, hN7, hk7⟩; have hO2 := own_out hO2 hT.n2 (by decide) (by decide) (sub2 hk7); have hby1 := (fun x hx => own_out (hby1 x hx) hT.n2 (by decide) (by decide) (sub2 hk7)); have hT := (hT.swap.first hN7 (fun g hg => .inl hg) (sub2 hk7)).swap; have hrd3 := (hC3.own.sl lenc_sz).rd; have hby3 := hC3.bytes; obtain ⟨A3, c3, rfl, _⟩ := hC3.own.sl lenc_sz; clear hC3)
            | (go_at_call 19; refine (equal_any (hO2.sl lenc_sz).rd (fun x hx => (hby1 x (List.mem_filter.1 hx).1).sl benc_sz) hrd3 (fun x hx => (hby3 x hx).sl benc_sz) (mine_lt a b ho1 ho3 hcm) (Nat.le_trans (List.length_filter_le _ _) hl1)).mono ?_; rintro e w8 ⟨rfl, hk8⟩)
            | fail)
          have hT8 := hT.keep0 hk8
          go_roundg (D.length - (k + 1))
          case measure => have := HK.out; omega
          case rel => exact ⟨k + 1, _, _, R1, B1, R2, B2, by go_num, by have := HK.out; omega, hT8, hS⟩
        · obtain ⟨is, his⟩ : ∃ is : Bool, (dw % 4 == 2) = is := ⟨_, rfl⟩
          have w0' : (dw % 4 == 0) = false := by rw [beq_eq_false_iff_ne]; omega
          have w1' : (dw % 4 == 1) = false := by rw [beq_eq_false_iff_ne]; omega
          have hS := HA.out.setCut ha2 hb2 da db is
          rw [hmi] at hS
          have u1 := cut_any hT.n1 (by rw [HA.out.px]; decide) da db is
          clear h4 hcv
          go_upto_region 15 with (first
            | (go_at_call 18; refine u1.mono ?_; rintro e w5 ⟨rfl, hN5, hk5⟩)
            | fail)
          have hT5 := hT.first hN5 (fun g hg => .inl hg) (sub1 hk5)
          have Bd5 := Bd.keep (sub1 (b := m1) (R := R1) hk5) n1
          clear c0 u1
          have c5 := Bd5.cell
          cases mi with
          | false =>
            have hS' := Lib.hid hS
            clear hS hmi HM
            go_wp2_with fail
            go_roundg (D.length - (k + 1))
            case measure => have := HK.out; omega
            case rel => exact ⟨k + 1, _, Y, R1, B1, R2, B2, by go_num, by have := HK.out; omega, hT5, Lib.hid (by simpa using hS'.out)⟩
          | true =>
            have hS' := Lib.hid hS
            have u2 := cut_any hT5.n2 (by rw [HA.out.py]; decide) da db is
            clear hS hmi HM
            go_wp2_with (first
              | (go_at_call 18; refine u2.mono ?_; rintro e w6 ⟨rfl, hN6, hk6⟩)
              | fail)
            have hT6 := (hT5.swap.first hN6 (fun g hg => .inl hg) (sub1 hk6)).swap
            go_roundg (D.length - (k + 1))
            case measure => have := HK.out; omega
            case rel => exact ⟨k + 1, _, _, R1, B1, R2, B2, by go_num, by have := HK.out; omega, hT6, Lib.hid (by simpa using hS'.out)⟩
    · go_wp2_with (first
        | (go_at_call 12; refine (told_any _).mono ?_; rintro e w6 ⟨rfl, hk6⟩)
        | fail)
      go_ret
      exact ⟨rfl, (hk1.trans hT.k).trans hk6⟩
end Go.Proofs.Ytcjbmbljmmakfaa
