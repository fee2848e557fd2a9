/-
  Chapter 55: a copy of a matching: the walk.
-/
import Derived.Test.YtckbhdokfkabfaaNwm55
import Derived.Deep.RegionWith
set_option linter.unusedSimpArgs false
set_option linter.unusedVariables false
namespace Go.Proofs.Ytckbhdokfkabfaa
open Go.RowKit
set_option maxRecDepth 100000
set_option maxHeartbeats 8000000
theorem wp_absA {α : Type} {P : Program} {code : Code} {Q : Exit → Act → World → Prop} {a : Act} {w : World} (F : Act → α → Act) (C : α → World → Prop)
    (h : code.wp P (fun e a' w' => e = .normal ∧ ∃ x, a' = F a x ∧ C x w') a w) (h2 : ∀ x w', C x w' → Q .normal (F a x) w') : code.wp P Q a w := by
  refine Code.wp_mono ?_ h
  rintro e a' w' ⟨rfl, x, rfl, hc⟩
  exact h2 x w' hc
structure Cp where
  A1 : Option Addr
  c1 : Nat
  A2 : Option Addr
  c2 : Nat
  bY : Nat
theorem own_rd {α : Type} {enc : α → List Value} {size : Nat} {e B : Nat} {w : World} {A : Option Addr} {n c : Nat} {l : List α} (hs : ∀ x, (enc x).length = size) (h : OwnL enc size e B w (.slice A n c) l) : Rd enc size w w.heap.size A l := by
  obtain ⟨A', c', e1, hr, _⟩ := OwnL.rd hs h
  injection e1 with e1
  subst e1
  exact hr
structure Cq where
  a : Option Addr
  c : Nat
  b : Nat
  g : Nat
  cap : Nat
def cqF (x : Mx) (bY : Nat) (R : Option Addr) (rc n : Nat) (r : Rw) (a : Act) (z : Cq) : Act :=
  ((((((((((a.put (some 27) (.pointer (some ⟨bY, 0, none⟩))).put (some 28) (.pointer (some ⟨bY, 0, none⟩))).put (some 29) (.pointer (some ⟨bY, 0, none⟩))).put (some 30) (.pointer (some ⟨bY, 0, none⟩))).put (some 31) (.slice R n rc)).put (some 32) (.slice r.a x.nu r.c)).put (some 33) (.slice z.a x.nu z.c)).put (some 34) (.slice (some ⟨z.b, 0, none⟩) 1 1)).put (some 35) (.slice (some ⟨z.g, 0, none⟩) (n + 1) z.cap)).put (some 36) (.pointer (some ⟨bY, 0, none⟩))).put (some 37) (.pointer (some ⟨bY, 0, none⟩))
def cpF (x : Mx) (a : Act) (z : Cp) : Act :=
  ((((((((((((a.put (some 6) (.pointer (some ⟨x.bX, 0, none⟩))).put (some 7) (.pointer (some ⟨x.bX, 0, none⟩))).put (some 8) (.pointer (some ⟨x.bX, 1, none⟩))).put (some 9) (.slice x.N x.nm x.nc)).put (some 10) (.slice z.A1 x.nm z.c1)).put (some 11) (.pointer (some ⟨x.bX, 0, none⟩))).put (some 12) (.pointer (some ⟨x.bX, 0, none⟩))).put (some 13) (.pointer (some ⟨x.bX, 2, none⟩))).put (some 14) (.slice x.U x.nu x.uc)).put (some 15) (.slice z.A2 x.nu z.c2)).put (some 16) (.agg #[.slice none 0 0, .slice z.A1 x.nm z.c1, .slice z.A2 x.nu z.c2])).put (some 17) (.pointer (some ⟨z.bY, 0, none⟩))).put (some 3) (.pointer (some ⟨z.bY, 0, none⟩))
theorem cp_mat {B b3 : Nat} {A1 A2 : Option Addr} {k1 k2 nm nu : Nat} {need : List Nat} {us : List Int} {w : World} (hk : Blk w b3 93 [.slice none 0 0, .slice A1 nm k1, .slice A2 nu k2]) (hB : B ≤ b3) (h1 : OwnL nE 1 3 B w (.slice A1 nm k1) need) (h2 : OwnL iE 1 3 B w (.slice A2 nu k2) us) (hl1 : need.length = nm) (hl2 : us.length = nu)
    (hd : ∀ b ∈ adB A1, b ∉ adB A2) (hn1 : ∀ b ∈ adB A1, b ≠ b3) (hn2 : ∀ b ∈ adB A2, b ≠ b3) : MatP B b3 none 0 A1 k1 A2 k2 nu [] need us w := by
  subst hl1
  refine ⟨hk, hB, World.ownsRow_nil _ _ _ _, (fun r hr => by simp at hr), h1, h2, ?_, hl2⟩
  rw [List.nodup_cons]
  refine ⟨fun e => ?_, ?_⟩
  · simp only [adB, Option.map_none, Option.toList_none, List.nil_append, rwB, List.flatMap_nil, List.append_nil, List.mem_append] at e
    rcases e with e | e
    · exact hn1 b3 e rfl
    · exact hn2 b3 e rfl
  · simp only [rwB, List.flatMap_nil, List.append_nil]
    have e0 : adB (none : Option Addr) = [] := rfl
    rw [e0, List.nil_append]
    exact List.nodup_append.2 ⟨adB_nodup _, adB_nodup _, fun a ha b hb e => hd a ha (by rw [e]; exact hb)⟩
theorem copied_p (B : Nat) (x : Mx) (rows : List Rw) (need : List Nat) (us : List Int) (w : World) (hnu : x.nu ≤ 1000) (hnm : x.nm ≤ 1000) (h : MatS B x rows need us w) :
    Calls Try.prog 59 #[.pointer (some ⟨x.bX, 0, none⟩)] w fun e w' => ∃ (y : Mx) (rows' : List Rw), e = .returned (.pointer (some ⟨y.bX, 0, none⟩)) ∧ MatS w.heap.size y rows' need us w' ∧ mayR rows' = mayR rows ∧ y.nm = x.nm ∧ y.nu = x.nu ∧ Below w.heap.size w w' := by
  have H := Lib.hid h
  have HLN := Lib.hid h.ln
  have HLU := Lib.hid h.lu
  clear h
  go_enter Try.func59, Try.ntmps59
  go_upto_region 1 with (fail)
  refine wp_absA (cpF x) (fun (z : Cp) (w' : World) => MatP w.heap.size z.bY none 0 z.A1 z.c1 z.A2 z.c2 x.nu [] need us w' ∧ Below w.heap.size w w') ?reg ?beh
  case reg =>
    refine wp_region_held_drew (S := fun w' => MatS B x rows need us w' ∧ Below w.heap.size w w') (by kernel_rfl) ⟨H.out.to (cur_drew w 1), cur_drew w 1⟩ (fun hS => ?_)
    obtain ⟨w1, hw1⟩ : ∃ W, w.drew = W := ⟨_, rfl⟩
    have HBw1 := Lib.hid (show Below w.heap.size w w1 by rw [← hw1]; exact cur_drew w 1)
    rw [hw1] at hS ⊢
    clear hw1
    refine wpAnyH_take (i := 0) (v := ?_) rfl (by kernel_rfl) (by kernel_rfl) (by kernel_rfl) (fun _ _ _ h => nomatch h.1) (Or.inl ⟨by rfl, ?_⟩) hS ?_
    rotate_left
    · intro w' _
      go_simp
      try with_reducible rfl
    refine wpAnyH_take (i := 1) (v := ?_) rfl (by kernel_rfl) (by kernel_rfl) (by kernel_rfl) (fun _ _ _ h => nomatch h.1) (Or.inl ⟨by rfl, ?_⟩) hS ?_
    rotate_left
    · intro w' _
      go_simp
      try with_reducible rfl
    refine wpAnyH_take (i := 2) (v := ?_) rfl (by kernel_rfl) (by kernel_rfl) (by kernel_rfl) (fun _ _ _ h => nomatch h.1) (Or.inl ⟨by rfl, ?_⟩) hS ?_
    rotate_left
    · intro w' _
      go_simp
      try with_reducible rfl
    refine wpAnyH_take (i := 3) (v := .slice x.N x.nm x.nc) rfl (by kernel_rfl) (by kernel_rfl) (by kernel_rfl) (fun _ _ _ h => nomatch h.1) (Or.inl ⟨by rfl, ?_⟩) hS ?_
    · intro w' hw'
      obtain ⟨q0, q1, q2, ql⟩ := hw'.1.cells
      go_simp
    refine wpAnyH_take (i := 5) (v := ?_) rfl (by kernel_rfl) (by kernel_rfl) (by kernel_rfl) (fun _ _ _ h => nomatch h.1) (Or.inl ⟨by rfl, ?_⟩) hS ?_
    rotate_left
    · intro w' _
      go_simp
      try with_reducible rfl
    refine wpAnyH_take (i := 6) (v := ?_) rfl (by kernel_rfl) (by kernel_rfl) (by kernel_rfl) (fun _ _ _ h => nomatch h.1) (Or.inl ⟨by rfl, ?_⟩) hS ?_
    rotate_left
    · intro w' _
      go_simp
      try with_reducible rfl
    refine wpAnyH_take (i := 7) (v := ?_) rfl (by kernel_rfl) (by kernel_rfl) (by kernel_rfl) (fun _ _ _ h => nomatch h.1) (Or.inl ⟨by rfl, ?_⟩) hS ?_
    rotate_left
    · intro w' _
      go_simp
      try with_reducible rfl
    refine wpAnyH_take (i := 8) (v := .slice x.U x.nu x.uc) rfl (by kernel_rfl) (by kernel_rfl) (by kernel_rfl) (fun _ _ _ h => nomatch h.1) (Or.inl ⟨by rfl, ?_⟩) hS ?_
    · intro w' hw'
      obtain ⟨q0, q1, q2, ql⟩ := hw'.1.cells
      go_simp
    refine wpAnyH_ready (rs := [4]) (by kernel_rfl) (by simp) ?_
    refine AllReadyH.cons rfl (fun K' hK => ?_) AllReadyH.nil
    go_simp
    have hcl := clone_i Try.nElem need x.N x.nc w1 (by rw [HLN.out]; omega) (own_rd nE_len (H.out.to HBw1.out).hneed)
    rw [HLN.out] at hcl
    refine hcl.mono ?_
    rintro e w2 ⟨⟨A1, k1, rfl, ho1⟩, hbw2⟩
    have HO1 := Lib.hid ho1
    have HBsw2 := Lib.hid hbw2
    have HBw2 := Lib.hid (cur_step1 HBw1.out hbw2)
    dsimp only
    refine hK.out _ _ ⟨H.out.to HBw2.out, HBw2.out⟩ (fun hS => ?_)
    clear hK K' hcl ho1 hbw2
    refine wpAnyH_ready (rs := [9]) (by kernel_rfl) (by simp) ?_
    refine AllReadyH.cons rfl (fun K' hK => ?_) AllReadyH.nil
    go_simp
    have hcl := clone_i Try.iElem us x.U x.uc w2 (by rw [HLU.out]; omega) (own_rd iE_len (H.out.to HBw2.out).hused)
    rw [HLU.out] at hcl
    refine hcl.mono ?_
    rintro e w3 ⟨⟨A2, k2, rfl, ho2⟩, hbw3⟩
    have HO2 := Lib.hid ho2
    have HBsw3 := Lib.hid hbw3
    have HBw3 := Lib.hid (cur_step1 HBw2.out hbw3)
    dsimp only
    refine hK.out _ _ ⟨H.out.to HBw3.out, HBw3.out⟩ (fun hS => ?_)
    clear hK K' hcl ho2 hbw3
    refine wpAnyH_take (i := 10) (v := .agg #[.slice none 0 0, .slice A1 x.nm k1, .slice A2 x.nu k2]) rfl (by kernel_rfl) (by kernel_rfl) (by kernel_rfl) (fun _ _ _ h => nomatch h.1) (Or.inl ⟨by rfl, ?_⟩) hS ?_
    · intro w' hw'
  
      go_simp
    refine wpAnyH_ready (rs := [11]) (by kernel_rfl) (by simp) ?_
    refine AllReadyH.cons rfl (fun K' hK => ?_) AllReadyH.nil
    go_simp
    have hb4 := cur_new w3 (.cells #[.slice none 0 0, .slice A1 x.nm k1, .slice A2 x.nu k2] 93)
    have hk4 := Blk.new w3 93 [.slice none 0 0, .slice A1 x.nm k1, .slice A2 x.nu k2]
    generalize w3.alloc (.cells #[.slice none 0 0, .slice A1 x.nm k1, .slice A2 x.nu k2] 93) = w4 at hb4 hk4 ⊢
    have HB4 := Lib.hid (cur_step1 HBw3.out hb4)
    have HO14 := Lib.hid (own_below (own_mono (own_below HO1.out HBsw3.out (Nat.le_refl _)) HBw1.out.size) hb4 (Nat.le_refl _))
    have HO24 := Lib.hid (own_below (own_mono HO2.out HBw2.out.size) hb4 (Nat.le_refl _))
    have HK4 := Lib.hid hk4
    refine hK.out _ _ ⟨H.out.to HB4.out, HB4.out⟩ (fun hS => ?_)
    clear hK K' hb4 hk4
    refine wpAnyH_take (i := 12) (v := ?_) rfl (by kernel_rfl) (by kernel_rfl) (by kernel_rfl) (fun _ _ _ h => nomatch h.1) (Or.inl ⟨by rfl, ?_⟩) hS ?_
    rotate_left
    · intro w' _
      go_simp
      try with_reducible rfl
    refine wpAnyH_done (by kernel_rfl) ?_ _
    refine ⟨rfl, ⟨A1, k1, A2, k2, w3.heap.size⟩, ?fra, ?con, HB4.out⟩
    case fra => unfold cpF; go_simp
    case con =>
      have hdis : ∀ b ∈ adB A1, b ∉ adB A2 := fun b hb e => by have h1 := (own_in HO1.out b hb).2; have h2 := (own_in HO2.out b e).1; omega
      have hl1 : ∀ b ∈ adB A1, b ≠ w3.heap.size := fun b hb e => by have h1 := (own_in (own_mono (own_below HO1.out HBsw3.out (Nat.le_refl _)) HBw1.out.size) b hb).2; omega
      have hl2 : ∀ b ∈ adB A2, b ≠ w3.heap.size := fun b hb e => by have h1 := (own_in (own_mono HO2.out HBw2.out.size) b hb).2; omega
      exact cp_mat HK4.out HBw3.out.size HO14.out HO24.out HLN.out HLU.out hdis hl1 hl2
  case beh =>
    rintro ⟨A1, k1, A2, k2, bY⟩ w4 ⟨hP, hB⟩
    dsimp only at hP hB
    have HP := Lib.hid hP
    have HB := Lib.hid hB
    have HM4 := Lib.hid (H.out.to hB)
    obtain ⟨c0, -, -, cl⟩ := HM4.out.cells
    have HRL := Lib.hid H.out.lr
    clear hP hB
    unfold cpF
    dsimp only
    go_simp
    go_wp2_with (fail)
    go_loopw [23] (fun iv wr => ∃ (k : Nat) (R : Option Addr) (rc : Nat) (rows' : List Rw), k ≤ x.nm ∧ iv = .int .i64 k ∧ MatP w.heap.size bY R rc A1 k1 A2 k2 x.nu rows' need us wr ∧ mayR rows' = (mayR rows).take k ∧ Below w.heap.size w wr) (fun i _ => x.nm - (intOf i).toNat)
    case atStart => exact ⟨0, none, 0, [], by omega, rfl, HP.out, rfl, HB.out⟩
    case round =>
      clear HP HB HM4 c0 cl
      obtain ⟨k, R, rc, rows', hk, rfl, hP, hmr, hb⟩ := hrel
      have HP := Lib.hid hP
      have HB := Lib.hid hb
      have HMR := Lib.hid hmr
      have HR2 := Lib.hid (show rows'.length = k by have := congrArg List.length hmr; simp [mayR] at this; have := HRL.out; omega)
      have HM4 := Lib.hid (H.out.to hb)
      clear hP hb hmr
      by_cases hkl : k < x.nm
      · obtain ⟨r, hr⟩ : ∃ r, rows[k]? = some r := ⟨_, List.getElem?_eq_getElem (by rw [HRL.out]; exact hkl)⟩
        obtain ⟨gR, hgR, cR, -, hgRl, -, -⟩ := own1_at (rwE_len x.nu) HM4.out.outer hr rfl
        obtain ⟨hrow, hrl⟩ := HM4.out.row r (List.mem_of_getElem? hr)
        have HRow := Lib.hid (own_rd boE_len hrow)
        have HRr := Lib.hid hrl
        have HMN := Lib.hid (show (mayR rows).take (k + 1) = (mayR rows).take k ++ [r.r] by rw [List.take_add_one]; congr 1; unfold mayR; rw [List.getElem?_map, hr]; rfl)
        rw [hgR]
        have HGR := Lib.hid hgR
        clear hrow hrl hr hgR
        go_upto_region 5 with (fail)
        refine wp_absA (cqF x bY R rc rows'.length r) (fun (z : Cq) (w' : World) => MatP w.heap.size bY (some ⟨z.g, 0, none⟩) z.cap A1 k1 A2 k2 x.nu (rows' ++ [⟨z.a, z.c, r.r⟩]) need us w' ∧ Below w.heap.size w w') ?reg ?beh
        case reg =>
          refine wp_region_any (by kernel_rfl) ?_
          try (change wpAny _ _ _ _ _ _ _ (World.drew _))
          obtain ⟨u0, hu0⟩ : ∃ W, wr.drew = W := ⟨_, rfl⟩
          have HBu0 := Lib.hid (show Below wr.heap.size wr u0 by rw [← hu0]; exact cur_drew wr 1)
          have HPu0 := Lib.hid (HP.out.to HBu0.out)
          have cA : u0.cell? ⟨bY, 0, none⟩ = some (.slice R rows'.length rc) := HPu0.out.blk.cell 0
          have lA := HPu0.out.blk.lt
          rw [hu0]
          clear hu0
          refine wpAny_take (i := 0) (v := ?_) rfl (by kernel_rfl) (by kernel_rfl) (by kernel_rfl) (fun _ _ _ h => nomatch h.1) (Or.inl ⟨by rfl, ?_⟩) ?_
          rotate_left
          · intro w
            go_simp
            try with_reducible rfl
          refine wpAny_take (i := 1) (v := ?_) rfl (by kernel_rfl) (by kernel_rfl) (by kernel_rfl) (fun _ _ _ h => nomatch h.1) (Or.inl ⟨by rfl, ?_⟩) ?_
          rotate_left
          · intro w
            go_simp
            try with_reducible rfl
          refine wpAny_take (i := 2) (v := ?_) rfl (by kernel_rfl) (by kernel_rfl) (by kernel_rfl) (fun _ _ _ h => nomatch h.1) (Or.inl ⟨by rfl, ?_⟩) ?_
          rotate_left
          · intro w
            go_simp
            try with_reducible rfl
          refine wpAny_take (i := 3) (v := ?_) rfl (by kernel_rfl) (by kernel_rfl) (by kernel_rfl) (fun _ _ _ h => nomatch h.1) (Or.inl ⟨by rfl, ?_⟩) ?_
          rotate_left
          · intro w
            go_simp
            try with_reducible rfl
          refine wpAny_take (i := 5) (v := ?_) rfl (by kernel_rfl) (by kernel_rfl) (by kernel_rfl) (fun _ _ _ h => nomatch h.1) (Or.inl ⟨by rfl, ?_⟩) ?_
          rotate_left
          · intro w
            go_simp
            try with_reducible rfl
          refine wpAny_ready (rs := [4, 6]) (by kernel_rfl) (by simp) ?_
          refine AllReady.cons rfl (fun K hK => ?_) (AllReady.cons rfl (fun K hK => ?_) AllReady.nil)
          · go_simp
            refine hK _ _ ?_
            clear hK K
            refine wpAny_ready (rs := [6]) (by kernel_rfl) (by simp) ?_
            refine AllReady.cons rfl (fun K hK => ?_) AllReady.nil
            go_simp
            have hcl := clone_b r.r r.a r.c u0 (by rw [HRr.out]; omega) ((HRow.out.to HBu0.out))
            rw [HRr.out] at hcl
            refine hcl.mono ?_
            rintro e u1 ⟨⟨A5, k5, rfl, ho5⟩, hbu1⟩
            have HO5 := Lib.hid ho5
            have HBu1 := Lib.hid hbu1
            have HP1 := Lib.hid (HPu0.out.to hbu1)
            have cB : u1.cell? ⟨bY, 0, none⟩ = some (.slice R rows'.length rc) := HP1.out.blk.cell 0
            have lB := HP1.out.blk.lt
            dsimp only
            refine hK _ _ ?_
            clear hK K hcl ho5 hbu1
            refine wpAny_ready (rs := [7]) (by kernel_rfl) (by simp) ?_
            refine AllReady.cons rfl (fun K hK => ?_) AllReady.nil
            go_simp
            obtain ⟨u2, hu2⟩ : ∃ y, u1.alloc (.cells (rwE x.nu ⟨A5, k5, r.r⟩).toArray 94) = y := ⟨_, rfl⟩
            have HBu2 := Lib.hid (show Below u1.heap.size u1 u2 by rw [← hu2]; exact cur_new _ _)
            have HKu2 := Lib.hid (show u2.heap[u1.heap.size]? = some (.cells (rwE x.nu ⟨A5, k5, r.r⟩).toArray 94 (0, 0)) by rw [← hu2]; exact heap_alloc_new _ _)
            have HP2 := Lib.hid (HP1.out.to HBu2.out)
            have cB : u2.cell? ⟨bY, 0, none⟩ = some (.slice R rows'.length rc) := HP2.out.blk.cell 0
            have lB := HP2.out.blk.lt
            refine hK _ _ ?_
            clear hK K
            change wpAny _ _ _ _ _ _ _ (u1.alloc (.cells (rwE x.nu ⟨A5, k5, r.r⟩).toArray 94))
            rw [hu2]
            clear hu2
            refine wpAny_ready (rs := [8]) (by kernel_rfl) (by simp) ?_
            refine AllReady.cons rfl (fun K hK => ?_) AllReady.nil
            refine step_app1 (Try.rwElem x.nu) u2 rfl (.tmp 31) (.tmp 34) rfl w.heap.size R rc rows' (by rfl) HP2.out.outer ⟨A5, k5, r.r⟩ u1.heap.size 1 (by rfl) HKu2.out (by unfold maxLen; have := HR2.out; omega) (by have := HR2.out; omega) (by have h1 := HP2.out.ge; have h2 := HP2.out.blk.lt; omega) ?_
            intro g8 cap8 u3 ha8
            have HA8 := Lib.hid ha8
            have hk8 := HP2.out.blk.far (Far.grown ha8.grown (fun b hb => adB_own hb)) (fun e => (List.nodup_cons.1 HP2.out.nd).1 (by simp [e]))
            have k8 := hk8.cell 0
            have f8 := hk8.frozen 0
            have l8 := hk8.lt
            refine hK _ _ ?_
            clear hK K ha8 hk8
            refine wpAny_ready (rs := [9]) (by kernel_rfl) (by simp) ?_
            refine AllReady.cons rfl (fun K hK => ?_) AllReady.nil
            go_simp
            refine hK _ _ ?_
            clear hK K
            refine wpAny_ready (rs := [10]) (by kernel_rfl) (by simp) ?_
            refine AllReady.cons rfl (fun K hK => ?_) AllReady.nil
            go_simp
            refine hK _ _ ?_
            clear hK K
            refine wpAny_ready (rs := [11]) (by kernel_rfl) (by simp) ?_
            refine AllReady.cons rfl (fun K hK => ?_) AllReady.nil
            go_simp
            refine hK _ _ ?_
            clear hK K
            refine wpAny_done (by kernel_rfl) ?_ _
            have hadd := HP1.out.addR (r := ⟨A5, k5, r.r⟩) HBu2.out (own_mono HO5.out (Nat.le_trans HB.out.size HBu0.out.size)) HRr.out (fun b hb e => by
              have h1 := (own_in HO5.out b hb).1
              have h2 := (HPu0.out.inB b e).2
              omega) HA8.out
            refine ⟨rfl, ⟨A5, k5, u1.heap.size, g8, cap8⟩, ?fra, hadd.1, ?bel⟩
            case fra => unfold cqF; go_simp
            case bel => exact (cur_step1 (cur_step1 HB.out HBu0.out) HBu1.out).trans (hadd.2.below (cur_step1 (cur_step1 HB.out HBu0.out) HBu1.out).size (fun y hy => HP1.out.inR y hy))
          · go_simp
            have hcl := clone_b r.r r.a r.c u0 (by rw [HRr.out]; omega) ((HRow.out.to HBu0.out))
            rw [HRr.out] at hcl
            refine hcl.mono ?_
            rintro e u1 ⟨⟨A5, k5, rfl, ho5⟩, hbu1⟩
            have HO5 := Lib.hid ho5
            have HBu1 := Lib.hid hbu1
            have HP1 := Lib.hid (HPu0.out.to hbu1)
            have cB : u1.cell? ⟨bY, 0, none⟩ = some (.slice R rows'.length rc) := HP1.out.blk.cell 0
            have lB := HP1.out.blk.lt
            dsimp only
            refine hK _ _ ?_
            clear hK K hcl ho5 hbu1
            refine wpAny_ready (rs := [4, 7]) (by kernel_rfl) (by simp) ?_
            refine AllReady.cons rfl (fun K hK => ?_) (AllReady.cons rfl (fun K hK => ?_) AllReady.nil)
            · go_simp
              refine hK _ _ ?_
              clear hK K
              refine wpAny_ready (rs := [7]) (by kernel_rfl) (by simp) ?_
              refine AllReady.cons rfl (fun K hK => ?_) AllReady.nil
              go_simp
              obtain ⟨u2, hu2⟩ : ∃ y, u1.alloc (.cells (rwE x.nu ⟨A5, k5, r.r⟩).toArray 94) = y := ⟨_, rfl⟩
              have HBu2 := Lib.hid (show Below u1.heap.size u1 u2 by rw [← hu2]; exact cur_new _ _)
              have HKu2 := Lib.hid (show u2.heap[u1.heap.size]? = some (.cells (rwE x.nu ⟨A5, k5, r.r⟩).toArray 94 (0, 0)) by rw [← hu2]; exact heap_alloc_new _ _)
              have HP2 := Lib.hid (HP1.out.to HBu2.out)
              have cB : u2.cell? ⟨bY, 0, none⟩ = some (.slice R rows'.length rc) := HP2.out.blk.cell 0
              have lB := HP2.out.blk.lt
              refine hK _ _ ?_
              clear hK K
              change wpAny _ _ _ _ _ _ _ (u1.alloc (.cells (rwE x.nu ⟨A5, k5, r.r⟩).toArray 94))
              rw [hu2]
              clear hu2
              refine wpAny_ready (rs := [8]) (by kernel_rfl) (by simp) ?_
              refine AllReady.cons rfl (fun K hK => ?_) AllReady.nil
              refine step_app1 (Try.rwElem x.nu) u2 rfl (.tmp 31) (.tmp 34) rfl w.heap.size R rc rows' (by rfl) HP2.out.outer ⟨A5, k5, r.r⟩ u1.heap.size 1 (by rfl) HKu2.out (by unfold maxLen; have := HR2.out; omega) (by have := HR2.out; omega) (by have h1 := HP2.out.ge; have h2 := HP2.out.blk.lt; omega) ?_
              intro g8 cap8 u3 ha8
              have HA8 := Lib.hid ha8
              have hk8 := HP2.out.blk.far (Far.grown ha8.grown (fun b hb => adB_own hb)) (fun e => (List.nodup_cons.1 HP2.out.nd).1 (by simp [e]))
              have k8 := hk8.cell 0
              have f8 := hk8.frozen 0
              have l8 := hk8.lt
              refine hK _ _ ?_
              clear hK K ha8 hk8
              refine wpAny_ready (rs := [9]) (by kernel_rfl) (by simp) ?_
              refine AllReady.cons rfl (fun K hK => ?_) AllReady.nil
              go_simp
              refine hK _ _ ?_
              clear hK K
              refine wpAny_ready (rs := [10]) (by kernel_rfl) (by simp) ?_
              refine AllReady.cons rfl (fun K hK => ?_) AllReady.nil
              go_simp
              refine hK _ _ ?_
              clear hK K
              refine wpAny_ready (rs := [11]) (by kernel_rfl) (by simp) ?_
              refine AllReady.cons rfl (fun K hK => ?_) AllReady.nil
              go_simp
              refine hK _ _ ?_
              clear hK K
              refine wpAny_done (by kernel_rfl) ?_ _
              have hadd := HP1.out.addR (r := ⟨A5, k5, r.r⟩) HBu2.out (own_mono HO5.out (Nat.le_trans HB.out.size HBu0.out.size)) HRr.out (fun b hb e => by
                have h1 := (own_in HO5.out b hb).1
                have h2 := (HPu0.out.inB b e).2
                omega) HA8.out
              refine ⟨rfl, ⟨A5, k5, u1.heap.size, g8, cap8⟩, ?fra, hadd.1, ?bel⟩
              case fra => unfold cqF; go_simp
              case bel => exact (cur_step1 (cur_step1 HB.out HBu0.out) HBu1.out).trans (hadd.2.below (cur_step1 (cur_step1 HB.out HBu0.out) HBu1.out).size (fun y hy => HP1.out.inR y hy))
            · go_simp
              obtain ⟨u2, hu2⟩ : ∃ y, u1.alloc (.cells (rwE x.nu ⟨A5, k5, r.r⟩).toArray 94) = y := ⟨_, rfl⟩
              have HBu2 := Lib.hid (show Below u1.heap.size u1 u2 by rw [← hu2]; exact cur_new _ _)
              have HKu2 := Lib.hid (show u2.heap[u1.heap.size]? = some (.cells (rwE x.nu ⟨A5, k5, r.r⟩).toArray 94 (0, 0)) by rw [← hu2]; exact heap_alloc_new _ _)
              have HP2 := Lib.hid (HP1.out.to HBu2.out)
              have cB : u2.cell? ⟨bY, 0, none⟩ = some (.slice R rows'.length rc) := HP2.out.blk.cell 0
              have lB := HP2.out.blk.lt
              refine hK _ _ ?_
              clear hK K
              change wpAny _ _ _ _ _ _ _ (u1.alloc (.cells (rwE x.nu ⟨A5, k5, r.r⟩).toArray 94))
              rw [hu2]
              clear hu2
              refine wpAny_ready (rs := [4]) (by kernel_rfl) (by simp) ?_
              refine AllReady.cons rfl (fun K hK => ?_) AllReady.nil
              go_simp
              refine hK _ _ ?_
              clear hK K
              refine wpAny_ready (rs := [8]) (by kernel_rfl) (by simp) ?_
              refine AllReady.cons rfl (fun K hK => ?_) AllReady.nil
              refine step_app1 (Try.rwElem x.nu) u2 rfl (.tmp 31) (.tmp 34) rfl w.heap.size R rc rows' (by rfl) HP2.out.outer ⟨A5, k5, r.r⟩ u1.heap.size 1 (by rfl) HKu2.out (by unfold maxLen; have := HR2.out; omega) (by have := HR2.out; omega) (by have h1 := HP2.out.ge; have h2 := HP2.out.blk.lt; omega) ?_
              intro g8 cap8 u3 ha8
              have HA8 := Lib.hid ha8
              have hk8 := HP2.out.blk.far (Far.grown ha8.grown (fun b hb => adB_own hb)) (fun e => (List.nodup_cons.1 HP2.out.nd).1 (by simp [e]))
              have k8 := hk8.cell 0
              have f8 := hk8.frozen 0
              have l8 := hk8.lt
              refine hK _ _ ?_
              clear hK K ha8 hk8
              refine wpAny_ready (rs := [9]) (by kernel_rfl) (by simp) ?_
              refine AllReady.cons rfl (fun K hK => ?_) AllReady.nil
              go_simp
              refine hK _ _ ?_
              clear hK K
              refine wpAny_ready (rs := [10]) (by kernel_rfl) (by simp) ?_
              refine AllReady.cons rfl (fun K hK => ?_) AllReady.nil
              go_simp
              refine hK _ _ ?_
              clear hK K
              refine wpAny_ready (rs := [11]) (by kernel_rfl) (by simp) ?_
              refine AllReady.cons rfl (fun K hK => ?_) AllReady.nil
              go_simp
              refine hK _ _ ?_
              clear hK K
              refine wpAny_done (by kernel_rfl) ?_ _
              have hadd := HP1.out.addR (r := ⟨A5, k5, r.r⟩) HBu2.out (own_mono HO5.out (Nat.le_trans HB.out.size HBu0.out.size)) HRr.out (fun b hb e => by
                have h1 := (own_in HO5.out b hb).1
                have h2 := (HPu0.out.inB b e).2
                omega) HA8.out
              refine ⟨rfl, ⟨A5, k5, u1.heap.size, g8, cap8⟩, ?fra, hadd.1, ?bel⟩
              case fra => unfold cqF; go_simp
              case bel => exact (cur_step1 (cur_step1 HB.out HBu0.out) HBu1.out).trans (hadd.2.below (cur_step1 (cur_step1 HB.out HBu0.out) HBu1.out).size (fun y hy => HP1.out.inR y hy))
        case beh =>
          rintro ⟨A5, k5, b7, g8, cap8⟩ w9 ⟨hP, hB⟩
          dsimp only at hP hB
          have HPF := Lib.hid hP
          have HBF := Lib.hid hB
          have HMRF := Lib.hid (show mayR (rows' ++ [⟨A5, k5, r.r⟩]) = (mayR rows).take (k + 1) by rw [HMN.out, ← HMR.out]; unfold mayR; rw [List.map_append]; rfl)
          clear hP hB
          have hk1000 : k < 1000 := by omega
          unfold cqF
          dsimp only
          go_simp
          go_wp2_with (fail)
          first
          | (go_roundw
             case rel => exact ⟨k + 1, some ⟨g8, 0, none⟩, cap8, _, by omega, by simp, HPF.out, HMRF.out, HBF.out⟩
             case measure => simp [intOf]; omega)
          | exact ⟨⟨k + 1, some ⟨g8, 0, none⟩, cap8, _, by omega, by simp, HPF.out, HMRF.out, HBF.out⟩, by simp [intOf]; omega⟩
      · have hke : k = x.nm := by omega
        have HMF := Lib.hid (show mayR rows' = mayR rows by
          have e := HMR.out
          rwa [List.take_of_length_le (by unfold mayR; rw [List.length_map, HRL.out]; omega)] at e)
        have HRF := Lib.hid (show rows'.length = x.nm by rw [HR2.out, hke])
        clear hke
        go_wp2_with (fail)
        go_ret
        exact ⟨_, rows', rfl, HP.out.mat (by rw [HLN.out, HRF.out]), HMF.out, HRF.out, rfl, HB.out⟩
end Go.Proofs.Ytckbhdokfkabfaa
