/-
  Chapter 50: tight of the reference.
-/
import Derived.Test.YtnbhplhhemkniaaRefu50
import Derived.Test.YtnbhplhhemkniaaNextR50
namespace Go.Proofs.Ytnbhplhhemkniaa
open Go.RowKit
set_option maxRecDepth 100000
set_option maxHeartbeats 4000000
/-- The least bad window of the pairs before (k, m). -/
def TgInv (js : List Jb) (first : Int) (caps : List Int) (k m : Nat) (f : Bool) (x y : Int) : Prop :=
  (f = true ∧ ((∃ a ∈ js, a.f = x) ∧ (∃ b ∈ js, b.t = y) ∧ badW js first caps x y = true) ∧ ∀ (i j : Nat) (a b : Jb), (i < k ∨ (i = k ∧ j < m)) → js[i]? = some a → js[j]? = some b → badW js first caps a.f b.t = true → x < a.f ∨ (x = a.f ∧ y ≤ b.t)) ∨
  (f = false ∧ x = 0 ∧ y = 0 ∧ ∀ (i j : Nat) (a b : Jb), (i < k ∨ (i = k ∧ j < m)) → js[i]? = some a → js[j]? = some b → badW js first caps a.f b.t = false)
theorem tg_no {js : List Jb} {first : Int} {caps : List Int} {k m : Nat} {f : Bool} {x y : Int} {a b : Jb} (h : TgInv js first caps k m f x y) (ha : js[k]? = some a) (hb : js[m]? = some b) (hbad : badW js first caps a.f b.t = false) : TgInv js first caps k (m + 1) f x y := by
  rcases h with ⟨h1, h2, h3⟩ | ⟨h1, h2, h3, h4⟩
  · refine .inl ⟨h1, h2, fun i j a' b' hij ha' hb' hbad' => ?_⟩
    by_cases hn : i = k ∧ j = m
    · obtain ⟨rfl, rfl⟩ := hn
      rw [ha] at ha'
      rw [hb] at hb'
      injection ha' with ha'
      injection hb' with hb'
      subst ha' hb'
      rw [hbad] at hbad'; cases hbad'
    · exact h3 i j a' b' (by omega) ha' hb' hbad'
  · refine .inr ⟨h1, h2, h3, fun i j a' b' hij ha' hb' => ?_⟩
    by_cases hn : i = k ∧ j = m
    · obtain ⟨rfl, rfl⟩ := hn
      rw [ha] at ha'
      rw [hb] at hb'
      injection ha' with ha'
      injection hb' with hb'
      subst ha' hb'
      exact hbad
    · exact h4 i j a' b' (by omega) ha' hb'
theorem tg_new {js : List Jb} {first : Int} {caps : List Int} {k m : Nat} {f : Bool} {x y : Int} {a b : Jb} (h : TgInv js first caps k m f x y) (ha : js[k]? = some a) (hb : js[m]? = some b) (hbad : badW js first caps a.f b.t = true)
    (hc : f = false ∨ a.f < x ∨ (a.f = x ∧ b.t < y)) : TgInv js first caps k (m + 1) true a.f b.t := by
  refine .inl ⟨rfl, ⟨⟨a, List.mem_of_getElem? ha, rfl⟩, ⟨b, List.mem_of_getElem? hb, rfl⟩, hbad⟩, fun i j a' b' hij ha' hb' hbad' => ?_⟩
  by_cases hn : i = k ∧ j = m
  · obtain ⟨rfl, rfl⟩ := hn
    rw [ha] at ha'
    rw [hb] at hb'
    injection ha' with ha'
    injection hb' with hb'
    subst ha' hb'
    exact .inr ⟨rfl, Int.le_refl _⟩
  · rcases h with ⟨h1, h2, h3⟩ | ⟨h1, h2, h3, h4⟩
    · have := h3 i j a' b' (by omega) ha' hb' hbad'
      rcases hc with hc | hc
      · rw [h1] at hc; cases hc
      · omega
    · have := h4 i j a' b' (by omega) ha' hb'
      rw [hbad'] at this; cases this
theorem tg_old {js : List Jb} {first : Int} {caps : List Int} {k m : Nat} {x y : Int} {a b : Jb} (h : TgInv js first caps k m true x y) (ha : js[k]? = some a) (hb : js[m]? = some b) (h1 : ¬ a.f < x) (h2 : ¬ (a.f = x ∧ b.t < y)) : TgInv js first caps k (m + 1) true x y := by
  rcases h with ⟨g1, g2, g3⟩ | ⟨g1, _⟩
  · refine .inl ⟨rfl, g2, fun i j a' b' hij ha' hb' hbad' => ?_⟩
    by_cases hn : i = k ∧ j = m
    · obtain ⟨rfl, rfl⟩ := hn
      rw [ha] at ha'
      rw [hb] at hb'
      injection ha' with ha'
      injection hb' with hb'
      subst ha' hb'
      omega
    · exact g3 i j a' b' (by omega) ha' hb' hbad'
  · cases g1
theorem tg_row {js : List Jb} {first : Int} {caps : List Int} {k : Nat} {f : Bool} {x y : Int} (h : TgInv js first caps k js.length f x y) : TgInv js first caps (k + 1) 0 f x y := by
  have hx : ∀ (i j : Nat) (b : Jb), js[j]? = some b → (i < k + 1 ∨ (i = k + 1 ∧ j < 0)) → (i < k ∨ (i = k ∧ j < js.length)) := by
    intro i j b hb hij
    have := (List.getElem?_eq_some_iff.1 hb).1
    omega
  rcases h with ⟨h1, h2, h3⟩ | ⟨h1, h2, h3, h4⟩
  · exact .inl ⟨h1, h2, fun i j a b hij ha hb => h3 i j a b (hx i j b hb hij) ha hb⟩
  · exact .inr ⟨h1, h2, h3, fun i j a b hij ha hb => h4 i j a b (hx i j b hb hij) ha hb⟩
theorem tg_end {js : List Jb} {first : Int} {caps : List Int} {f : Bool} {x y : Int} (h : TgInv js first caps js.length 0 f x y) : IsTight js first caps x y := by
  rcases h with ⟨h1, h2, h3⟩ | ⟨h1, h2, h3, h4⟩
  · refine .inl ⟨h2, fun a ha b hb hbad => ?_⟩
    obtain ⟨i, hi⟩ := List.getElem?_of_mem ha
    obtain ⟨j, hj⟩ := List.getElem?_of_mem hb
    exact h3 i j a b (.inl (List.getElem?_eq_some_iff.1 hi).1) hi hj hbad
  · refine .inr ⟨h2, h3, fun a ha b hb => ?_⟩
    obtain ⟨i, hi⟩ := List.getElem?_of_mem ha
    obtain ⟨j, hj⟩ := List.getElem?_of_mem hb
    exact h4 i j a b (.inl (List.getElem?_eq_some_iff.1 hi).1) hi hj
theorem tg_start (js : List Jb) (first : Int) (caps : List Int) : TgInv js first caps 0 0 false 0 0 := .inr ⟨rfl, rfl, rfl, fun i j a b hij => by omega⟩
theorem ret_fst {P : Program} {fn : Func} {R : Ending → World → Prop} {a : Act} {w : World} {p q : Tmp} {ty : TypeId} {g : Nat} {e : TypeId} {xs : List Value} {d : TypeDesc} {u : Value} (h : fn.results = #[.cell p ty, .tmp q])
    (hp : a.tmps.getD p undef = .pointer (some ⟨g, 0, none⟩)) (hq : a.tmps.getD q undef = u) (hg : Blk w g e xs) (hu : P.underlying ty = some d) (hd : (match d with | .struct _ | .array _ _ => true | _ => false) = true) (hi : (P.info? ty).map (·.size) = some xs.length)
    (hdf : a.defers = []) (hR : R (.returned (.tuple #[.agg xs.toArray, u])) w) : bodyPost P fn R .ret a w := by
  refine ⟨hdf, _, ?_, hR⟩
  have hl := run_loadVar_row (P := P) w g e ty xs.toArray (0, 0) d hg hu hd (by simpa using hi)
  have hp' : a.tmps[p]?.getD undef = .pointer (some ⟨g, 0, none⟩) := by simpa using hp
  have hq' : a.tmps[q]?.getD undef = u := by simpa using hq
  simp [results, h, hp', hq', asAddr, hl]
def TgO (js : List Jb) (first : Int) (caps : List Int) (w : World) (found i : Value) (wr : World) : Prop := ∃ (k : Nat) (f : Bool) (x y : Int), k ≤ js.length ∧ i = .int .i64 k ∧ found = .bool f ∧ TgInv js first caps k 0 f x y ∧
  Blk wr w.heap.size 30 [.int .i64 0, .int .i64 0] ∧ Blk wr (w.heap.size + 1) 30 [.int .i64 x, .int .i64 y] ∧ Below w.heap.size w wr
def TgI (js : List Jb) (first : Int) (caps : List Int) (w : World) (k ga : Nat) (a : Jb) (found i : Value) (wr : World) : Prop := ∃ (m : Nat) (f : Bool) (x y : Int), m ≤ js.length ∧ i = .int .i64 m ∧ found = .bool f ∧ TgInv js first caps k m f x y ∧
  Blk wr w.heap.size 30 [.int .i64 0, .int .i64 0] ∧ Blk wr (w.heap.size + 1) 30 [.int .i64 x, .int .i64 y] ∧ Blk wr ga 43 [.int .i64 a.f, .int .i64 a.t] ∧ Below w.heap.size w wr
theorem tight_r (A C : Option Addr) (jc cc : Nat) (js : List Jb) (caps : List Int) (first : Int) (w : World) (hjl : js.length ≤ 400) (hcl : caps.length ≤ 400) (hra : Rd jbE 2 w w.heap.size A js) (hrc : Rd inE 1 w w.heap.size C caps) :
    Calls Try.prog 25 #[.slice A js.length jc, .int .i64 first, .slice C caps.length cc] w fun e w' => ∃ x y f, e = .returned (.tuple #[.agg #[.int .i64 x, .int .i64 y], .bool f]) ∧ IsTight js first caps x y ∧ Below w.heap.size w w' := by
  have HA := Lib.hid hra
  have HC := Lib.hid hrc
  have HB0 := Lib.hid (show Below w.heap.size w ((w.alloc (.cells #[.int .i64 0, .int .i64 0] 30)).alloc (.cells #[.int .i64 0, .int .i64 0] 30)) from cur_two w _ _)
  have HK0 := Lib.hid (show Blk ((w.alloc (.cells #[.int .i64 0, .int .i64 0] 30)).alloc (.cells #[.int .i64 0, .int .i64 0] 30)) w.heap.size 30 [.int .i64 0, .int .i64 0] from (Blk.new w 30 [.int .i64 0, .int .i64 0]).to (cur_new _ _))
  have HK1 := Lib.hid (show Blk ((w.alloc (.cells #[.int .i64 0, .int .i64 0] 30)).alloc (.cells #[.int .i64 0, .int .i64 0] 30)) (w.heap.size + 1) 30 [.int .i64 0, .int .i64 0] from two_new w _ _)
  clear hra hrc
  go_enter Try.func25, Try.ntmps25
  go_wp2_with fail
  go_loopw [9, 17] (TgO js first caps w) (fun _ i _ => js.length - (intOf i).toNat)
  case atStart => exact ⟨0, false, 0, 0, by omega, rfl, rfl, tg_start js first caps, HK0.out, HK1.out, HB0.out⟩
  case round =>
    clear HK0 HK1 HB0
    obtain ⟨k, f, x, y, hk, rfl, rfl, hinv, hk0, hk1, hb⟩ := hrel
    have HI := Lib.hid hinv
    have HK0 := Lib.hid hk0
    have HK1 := Lib.hid hk1
    have HB := Lib.hid hb
    clear hinv hk0 hk1 hb
    by_cases hlt : k < js.length
    · obtain ⟨a, ha⟩ : ∃ a, js[k]? = some a := ⟨_, List.getElem?_eq_getElem hlt⟩
      have HJA := Lib.hid ha
      obtain ⟨b0, off, rfl, hbb, hcj⟩ := HA.out.at_ HB.out ha
      obtain ⟨c0, c1⟩ := jb_cells hcj
      have hw := cur_new wr (.cells #[.int .i64 a.f, .int .i64 a.t] 43)
      have HW1 := Lib.hid (Blk.new wr 43 [.int .i64 a.f, .int .i64 a.t])
      have HK0' := Lib.hid (HK0.out.to hw)
      have HK1' := Lib.hid (HK1.out.to hw)
      have HB' := Lib.hid (cur_step1 HB.out hw)
      have hsz := HB.out.size
      have hs1 := HK1.out.lt
      clear hcj ha hw
      go_wp2_with fail
      obtain ⟨ga, hga⟩ : ∃ ga, ga = wr.heap.size := ⟨_, rfl⟩
      rw [← hga] at HW1 ⊢
      have hga1 : w.heap.size + 1 < ga := by rw [hga]; exact hs1
      clear hga c0 c1 HK0 HK1 HB hsz hs1
      go_loopw [9, 23] (TgI js first caps w k ga a) (fun _ i _ => js.length - (intOf i).toNat)
      case atStart => exact ⟨0, f, x, y, by omega, rfl, rfl, HI.out, HK0'.out, HK1'.out, HW1.out, HB'.out⟩
      case round =>
        clear HK0' HK1' HW1 HB' HI
        obtain ⟨m, f, x, y, hm, rfl, rfl, hinv, hk0, hk1, hka, hb⟩ := hrel
        have HI := Lib.hid hinv
        have HK0 := Lib.hid hk0
        have HK1 := Lib.hid hk1
        have HKA := Lib.hid hka
        have HB := Lib.hid hb
        clear hinv hk0 hk1 hka hb
        by_cases hlm : m < js.length
        · obtain ⟨b, hbm⟩ : ∃ b, js[m]? = some b := ⟨_, List.getElem?_eq_getElem hlm⟩
          have HJB := Lib.hid hbm
          obtain ⟨b1, off1, he1, hbb1, hcj⟩ := HA.out.at_ HB.out hbm
          cases he1
          obtain ⟨c0, c1⟩ := jb_cells hcj
          have hw := cur_new wr (.cells #[.int .i64 b.f, .int .i64 b.t] 43)
          have k0 : (wr.alloc (.cells #[.int .i64 b.f, .int .i64 b.t] 43)).cell? ⟨ga, 0, none⟩ = some (.int .i64 a.f) := (HKA.out.to hw).cell 0
          have k1 : (wr.alloc (.cells #[.int .i64 b.f, .int .i64 b.t] 43)).cell? ⟨wr.heap.size, 1, none⟩ = some (.int .i64 b.t) := (Blk.new wr 43 [.int .i64 b.f, .int .i64 b.t]).cell 1
          have hw2 := hw.trans ((cur_new (wr.alloc (.cells #[.int .i64 b.f, .int .i64 b.t] 43)) (.cells #[.int .i64 a.f, .int .i64 b.t] 30)).mono hw.size)
          have HW2 := Lib.hid hw2
          have HN := Lib.hid (two_new wr (.cells #[.int .i64 b.f, .int .i64 b.t] 43) (.cells #[.int .i64 a.f, .int .i64 b.t] 30))
          clear hcj hbm hw hw2
          go_wp2_with fail
          obtain ⟨W2, hW2⟩ : ∃ W2, W2 = (wr.alloc (.cells #[.int .i64 b.f, .int .i64 b.t] 43)).alloc (.cells #[.int .i64 a.f, .int .i64 b.t] 30) := ⟨_, rfl⟩
          have HN2 := Lib.hid (show Blk W2 (wr.heap.size + 1) 30 [.int .i64 a.f, .int .i64 b.t] from by rw [hW2]; exact HN.out)
          have HW := Lib.hid (show Below wr.heap.size wr W2 from by rw [hW2]; exact HW2.out)
          rw [← hW2]
          clear hW2 HN HW2 k0 k1 c0 c1
          obtain ⟨CS, hCS⟩ : ∃ CS : List (Nat × Nat × Value), CS = [(wr.heap.size + 1, 0, .int .i64 a.f), (wr.heap.size + 1, 1, .int .i64 b.t)] := ⟨_, rfl⟩
          have K3 : Keep W2 W2 CS := by
            rw [hCS]
            refine Keep.start (Below.refl _ _) ?_
            intro c hc
            simp only [List.mem_cons, List.mem_nil_iff, or_false] at hc
            rcases hc with rfl | rfl
            · exact ⟨HN2.out.lt, HN2.out.cell 0⟩
            · exact ⟨HN2.out.lt, HN2.out.cell 1⟩
          have q0 : ∀ s : Wd W2 CS, s.w.cell? ⟨wr.heap.size + 1, 0, none⟩ = some (.int .i64 a.f) := fun s => s.h.get (by simp [hCS])
          have q1 : ∀ s : Wd W2 CS, s.w.cell? ⟨wr.heap.size + 1, 1, none⟩ = some (.int .i64 b.t) := fun s => s.h.get (by simp [hCS])
          have HRA := Lib.hid (show ∀ s : Wd W2 CS, Rd jbE 2 s.w s.w.heap.size (some ⟨b0, off, none⟩) js from fun s => HA.out.to (cur_step1 (cur_step1 HB.out HW.out) s.h.1))
          have HRC := Lib.hid (show ∀ s : Wd W2 CS, Rd inE 1 s.w s.w.heap.size C caps from fun s => HC.out.to (cur_step1 (cur_step1 HB.out HW.out) s.h.1))
          have hex : ∀ s : Wd W2 CS, ∃ s' : Wd W2 CS, s.w = s'.w := fun s => ⟨s, rfl⟩
          haveI hne : Nonempty (Wd W2 CS) := ⟨⟨_, K3⟩⟩
          have hbs := HB.out.size
          clear hCS
          by_cases hgt : b.t < a.f
          · have HI2 := Lib.hid (tg_no HI.out HJA.out HJB.out (by unfold badW; rw [decide_eq_false (show ¬ a.f ≤ b.t by omega)]; rfl))
            have g1 : decide (b.t < a.f) = true := decide_eq_true hgt
            refine wp_region_wd W2 CS (by kernel_rfl) (by kernel_rfl) K3.drew ?_
            repeat (go_big_quiet_step (first
              | (go_at_call 17; refine (inside_r _ _ _ _ _ _ (by omega) (HRA.out _)).mono ?_; rintro e w4 ⟨rfl, hb4⟩; exact ⟨rfl, ⟨w4, (Wd.h _).to hb4⟩, rfl⟩)
              | (go_at_call 15; refine (room_r _ _ _ _ _ _ _ (by omega) (HRC.out _)).mono ?_; rintro e w4 ⟨rfl, hb4⟩; exact ⟨rfl, ⟨w4, (Wd.h _).to hb4⟩, rfl⟩)))
            refine wpQuiet_nil ?_
            rintro w6 ⟨s6, hs6⟩
            have hb6 : Below wr.heap.size wr w6 := by rw [hs6]; exact cur_step1 HW.out s6.h.1
            have HN6 := Lib.hid (show Blk w6 (wr.heap.size + 1) 30 [.int .i64 a.f, .int .i64 b.t] from by rw [hs6]; exact HN2.out.to s6.h.1)
            have HK06 := Lib.hid (HK0.out.to hb6)
            have HK16 := Lib.hid (HK1.out.to hb6)
            have HKA6 := Lib.hid (HKA.out.to hb6)
            have HB6 := Lib.hid (cur_step1 HB.out hb6)
            clear hb6 hs6 s6 q0 q1 hex hne K3 HRA HRC HN2 HW HK0 HK1 HKA HB
            go_wp2_with fail
            exact ⟨⟨m + 1, f, x, y, hlm, by simp, rfl, HI2.out, HK06.out, HK16.out, HKA6.out, HB6.out⟩, by simp [intOf]; omega⟩
          have g1 : decide (b.t < a.f) = false := decide_eq_false hgt
          by_cases hle : (insT js a.f b.t : Int) ≤ roomT a.f b.t first caps
          · have HI2 := Lib.hid (tg_no HI.out HJA.out HJB.out (by unfold badW; rw [decide_eq_false (show ¬ roomT a.f b.t first caps < (insT js a.f b.t : Int) by omega), Bool.and_false]))
            have g2 : decide ((insT js a.f b.t : Int) ≤ roomT a.f b.t first caps) = true := decide_eq_true hle
            refine wp_region_wd W2 CS (by kernel_rfl) (by kernel_rfl) K3.drew ?_
            repeat (go_big_quiet_step (first
              | (go_at_call 17; refine (inside_r _ _ _ _ _ _ (by omega) (HRA.out _)).mono ?_; rintro e w4 ⟨rfl, hb4⟩; exact ⟨rfl, ⟨w4, (Wd.h _).to hb4⟩, rfl⟩)
              | (go_at_call 15; refine (room_r _ _ _ _ _ _ _ (by omega) (HRC.out _)).mono ?_; rintro e w4 ⟨rfl, hb4⟩; exact ⟨rfl, ⟨w4, (Wd.h _).to hb4⟩, rfl⟩)))
            refine wpQuiet_nil ?_
            rintro w6 ⟨s6, hs6⟩
            have hb6 : Below wr.heap.size wr w6 := by rw [hs6]; exact cur_step1 HW.out s6.h.1
            have HN6 := Lib.hid (show Blk w6 (wr.heap.size + 1) 30 [.int .i64 a.f, .int .i64 b.t] from by rw [hs6]; exact HN2.out.to s6.h.1)
            have HK06 := Lib.hid (HK0.out.to hb6)
            have HK16 := Lib.hid (HK1.out.to hb6)
            have HKA6 := Lib.hid (HKA.out.to hb6)
            have HB6 := Lib.hid (cur_step1 HB.out hb6)
            clear hb6 hs6 s6 q0 q1 hex hne K3 HRA HRC HN2 HW HK0 HK1 HKA HB
            go_wp2_with fail
            exact ⟨⟨m + 1, f, x, y, hlm, by simp, rfl, HI2.out, HK06.out, HK16.out, HKA6.out, HB6.out⟩, by simp [intOf]; omega⟩
          have g2 : decide ((insT js a.f b.t : Int) ≤ roomT a.f b.t first caps) = false := decide_eq_false hle
          have HBAD := Lib.hid (show badW js first caps a.f b.t = true by unfold badW; simp; omega)
          cases f with
          | false =>
            have HI2 := Lib.hid (tg_new HI.out HJA.out HJB.out HBAD.out (.inl rfl))
            refine wp_region_wd W2 CS (by kernel_rfl) (by kernel_rfl) K3.drew ?_
            repeat (go_big_quiet_step (first
              | (go_at_call 17; refine (inside_r _ _ _ _ _ _ (by omega) (HRA.out _)).mono ?_; rintro e w4 ⟨rfl, hb4⟩; exact ⟨rfl, ⟨w4, (Wd.h _).to hb4⟩, rfl⟩)
              | (go_at_call 15; refine (room_r _ _ _ _ _ _ _ (by omega) (HRC.out _)).mono ?_; rintro e w4 ⟨rfl, hb4⟩; exact ⟨rfl, ⟨w4, (Wd.h _).to hb4⟩, rfl⟩)))
            refine wpQuiet_nil ?_
            rintro w6 ⟨s6, hs6⟩
            have hb6 : Below wr.heap.size wr w6 := by rw [hs6]; exact cur_step1 HW.out s6.h.1
            have HN6 := Lib.hid (show Blk w6 (wr.heap.size + 1) 30 [.int .i64 a.f, .int .i64 b.t] from by rw [hs6]; exact HN2.out.to s6.h.1)
            have HK06 := Lib.hid (HK0.out.to hb6)
            have HK16 := Lib.hid (HK1.out.to hb6)
            have HKA6 := Lib.hid (HKA.out.to hb6)
            have HB6 := Lib.hid (cur_step1 HB.out hb6)
            clear hb6 hs6 s6 q0 q1 hex hne K3 HRA HRC HN2 HW HK0 HK1 HKA HB
            have u0 : w6.cell? ⟨w.heap.size + 1, 0, none⟩ = some (.int .i64 x) := HK16.out.cell 0
            have u1 : w6.cell? ⟨w.heap.size + 1, 1, none⟩ = some (.int .i64 y) := HK16.out.cell 1
            have v0 : w6.cell? ⟨wr.heap.size + 1, 0, none⟩ = some (.int .i64 a.f) := HN6.out.cell 0
            have v1 : w6.cell? ⟨wr.heap.size + 1, 1, none⟩ = some (.int .i64 b.t) := HN6.out.cell 1
            have fu0 := HK16.out.frozen 0
            have fu1 := HK16.out.frozen 1
            go_wp2_with fail
            exact ⟨⟨m + 1, true, a.f, b.t, hlm, by simp, rfl, HI2.out, (HK06.out.other (by omega) 0 _).other (by omega) 1 _, (HK16.out.set 0 (.int .i64 a.f)).set 1 (.int .i64 b.t), (HKA6.out.other (by omega) 0 _).other (by omega) 1 _, below_set (below_set HB6.out (by omega) 0 _) (by omega) 1 _⟩, by simp [intOf]; omega⟩
          | true =>
            by_cases h1 : a.f < x
            · have HI2 := Lib.hid (tg_new HI.out HJA.out HJB.out HBAD.out (.inr (.inl h1)))
              have g3 : decide (a.f < x) = true := decide_eq_true h1
              refine wp_region_wd W2 CS (by kernel_rfl) (by kernel_rfl) K3.drew ?_
              repeat (go_big_quiet_step (first
                | (go_at_call 17; refine (inside_r _ _ _ _ _ _ (by omega) (HRA.out _)).mono ?_; rintro e w4 ⟨rfl, hb4⟩; exact ⟨rfl, ⟨w4, (Wd.h _).to hb4⟩, rfl⟩)
                | (go_at_call 15; refine (room_r _ _ _ _ _ _ _ (by omega) (HRC.out _)).mono ?_; rintro e w4 ⟨rfl, hb4⟩; exact ⟨rfl, ⟨w4, (Wd.h _).to hb4⟩, rfl⟩)))
              refine wpQuiet_nil ?_
              rintro w6 ⟨s6, hs6⟩
              have hb6 : Below wr.heap.size wr w6 := by rw [hs6]; exact cur_step1 HW.out s6.h.1
              have HN6 := Lib.hid (show Blk w6 (wr.heap.size + 1) 30 [.int .i64 a.f, .int .i64 b.t] from by rw [hs6]; exact HN2.out.to s6.h.1)
              have HK06 := Lib.hid (HK0.out.to hb6)
              have HK16 := Lib.hid (HK1.out.to hb6)
              have HKA6 := Lib.hid (HKA.out.to hb6)
              have HB6 := Lib.hid (cur_step1 HB.out hb6)
              clear hb6 hs6 s6 q0 q1 hex hne K3 HRA HRC HN2 HW HK0 HK1 HKA HB
              have u0 : w6.cell? ⟨w.heap.size + 1, 0, none⟩ = some (.int .i64 x) := HK16.out.cell 0
              have u1 : w6.cell? ⟨w.heap.size + 1, 1, none⟩ = some (.int .i64 y) := HK16.out.cell 1
              have v0 : w6.cell? ⟨wr.heap.size + 1, 0, none⟩ = some (.int .i64 a.f) := HN6.out.cell 0
              have v1 : w6.cell? ⟨wr.heap.size + 1, 1, none⟩ = some (.int .i64 b.t) := HN6.out.cell 1
              have fu0 := HK16.out.frozen 0
              have fu1 := HK16.out.frozen 1
              go_wp2_with fail
              exact ⟨⟨m + 1, true, a.f, b.t, hlm, by simp, rfl, HI2.out, (HK06.out.other (by omega) 0 _).other (by omega) 1 _, (HK16.out.set 0 (.int .i64 a.f)).set 1 (.int .i64 b.t), (HKA6.out.other (by omega) 0 _).other (by omega) 1 _, below_set (below_set HB6.out (by omega) 0 _) (by omega) 1 _⟩, by simp [intOf]; omega⟩
            have g3 : decide (a.f < x) = false := decide_eq_false h1
            by_cases h2 : a.f = x
            · have g4 : (a.f == x) = true := by simpa using h2
              by_cases h3 : b.t < y
              · have HI2 := Lib.hid (tg_new HI.out HJA.out HJB.out HBAD.out (.inr (.inr ⟨h2, h3⟩)))
                have g5 : decide (b.t < y) = true := decide_eq_true h3
                clear h2
                refine wp_region_wd W2 CS (by kernel_rfl) (by kernel_rfl) K3.drew ?_
                repeat (go_big_quiet_step (first
                  | (go_at_call 17; refine (inside_r _ _ _ _ _ _ (by omega) (HRA.out _)).mono ?_; rintro e w4 ⟨rfl, hb4⟩; exact ⟨rfl, ⟨w4, (Wd.h _).to hb4⟩, rfl⟩)
                  | (go_at_call 15; refine (room_r _ _ _ _ _ _ _ (by omega) (HRC.out _)).mono ?_; rintro e w4 ⟨rfl, hb4⟩; exact ⟨rfl, ⟨w4, (Wd.h _).to hb4⟩, rfl⟩)))
                refine wpQuiet_nil ?_
                rintro w6 ⟨s6, hs6⟩
                have hb6 : Below wr.heap.size wr w6 := by rw [hs6]; exact cur_step1 HW.out s6.h.1
                have HN6 := Lib.hid (show Blk w6 (wr.heap.size + 1) 30 [.int .i64 a.f, .int .i64 b.t] from by rw [hs6]; exact HN2.out.to s6.h.1)
                have HK06 := Lib.hid (HK0.out.to hb6)
                have HK16 := Lib.hid (HK1.out.to hb6)
                have HKA6 := Lib.hid (HKA.out.to hb6)
                have HB6 := Lib.hid (cur_step1 HB.out hb6)
                clear hb6 hs6 s6 q0 q1 hex hne K3 HRA HRC HN2 HW HK0 HK1 HKA HB
                have u0 : w6.cell? ⟨w.heap.size + 1, 0, none⟩ = some (.int .i64 x) := HK16.out.cell 0
                have u1 : w6.cell? ⟨w.heap.size + 1, 1, none⟩ = some (.int .i64 y) := HK16.out.cell 1
                have v0 : w6.cell? ⟨wr.heap.size + 1, 0, none⟩ = some (.int .i64 a.f) := HN6.out.cell 0
                have v1 : w6.cell? ⟨wr.heap.size + 1, 1, none⟩ = some (.int .i64 b.t) := HN6.out.cell 1
                have fu0 := HK16.out.frozen 0
                have fu1 := HK16.out.frozen 1
                go_wp2_with fail
                exact ⟨⟨m + 1, true, a.f, b.t, hlm, by simp, rfl, HI2.out, (HK06.out.other (by omega) 0 _).other (by omega) 1 _, (HK16.out.set 0 (.int .i64 a.f)).set 1 (.int .i64 b.t), (HKA6.out.other (by omega) 0 _).other (by omega) 1 _, below_set (below_set HB6.out (by omega) 0 _) (by omega) 1 _⟩, by simp [intOf]; omega⟩
              · have HI2 := Lib.hid (tg_old HI.out HJA.out HJB.out h1 (fun h => h3 h.2))
                have g5 : decide (b.t < y) = false := decide_eq_false h3
                clear h2
                refine wp_region_wd W2 CS (by kernel_rfl) (by kernel_rfl) K3.drew ?_
                repeat (go_big_quiet_step (first
                  | (go_at_call 17; refine (inside_r _ _ _ _ _ _ (by omega) (HRA.out _)).mono ?_; rintro e w4 ⟨rfl, hb4⟩; exact ⟨rfl, ⟨w4, (Wd.h _).to hb4⟩, rfl⟩)
                  | (go_at_call 15; refine (room_r _ _ _ _ _ _ _ (by omega) (HRC.out _)).mono ?_; rintro e w4 ⟨rfl, hb4⟩; exact ⟨rfl, ⟨w4, (Wd.h _).to hb4⟩, rfl⟩)))
                refine wpQuiet_nil ?_
                rintro w6 ⟨s6, hs6⟩
                have hb6 : Below wr.heap.size wr w6 := by rw [hs6]; exact cur_step1 HW.out s6.h.1
                have HN6 := Lib.hid (show Blk w6 (wr.heap.size + 1) 30 [.int .i64 a.f, .int .i64 b.t] from by rw [hs6]; exact HN2.out.to s6.h.1)
                have HK06 := Lib.hid (HK0.out.to hb6)
                have HK16 := Lib.hid (HK1.out.to hb6)
                have HKA6 := Lib.hid (HKA.out.to hb6)
                have HB6 := Lib.hid (cur_step1 HB.out hb6)
                clear hb6 hs6 s6 q0 q1 hex hne K3 HRA HRC HN2 HW HK0 HK1 HKA HB
                have u0 : w6.cell? ⟨w.heap.size + 1, 0, none⟩ = some (.int .i64 x) := HK16.out.cell 0
                have u1 : w6.cell? ⟨w.heap.size + 1, 1, none⟩ = some (.int .i64 y) := HK16.out.cell 1
                have v0 : w6.cell? ⟨wr.heap.size + 1, 0, none⟩ = some (.int .i64 a.f) := HN6.out.cell 0
                have v1 : w6.cell? ⟨wr.heap.size + 1, 1, none⟩ = some (.int .i64 b.t) := HN6.out.cell 1
                have fu0 := HK16.out.frozen 0
                have fu1 := HK16.out.frozen 1
                go_wp2_with fail
                exact ⟨⟨m + 1, true, x, y, hlm, by simp, rfl, HI2.out, HK06.out, HK16.out, HKA6.out, HB6.out⟩, by simp [intOf]; omega⟩
            · have HI2 := Lib.hid (tg_old HI.out HJA.out HJB.out h1 (fun h => h2 h.1))
              have g4 : (a.f == x) = false := by rw [beq_eq_false_iff_ne]; exact h2
              refine wp_region_wd W2 CS (by kernel_rfl) (by kernel_rfl) K3.drew ?_
              repeat (go_big_quiet_step (first
                | (go_at_call 17; refine (inside_r _ _ _ _ _ _ (by omega) (HRA.out _)).mono ?_; rintro e w4 ⟨rfl, hb4⟩; exact ⟨rfl, ⟨w4, (Wd.h _).to hb4⟩, rfl⟩)
                | (go_at_call 15; refine (room_r _ _ _ _ _ _ _ (by omega) (HRC.out _)).mono ?_; rintro e w4 ⟨rfl, hb4⟩; exact ⟨rfl, ⟨w4, (Wd.h _).to hb4⟩, rfl⟩)))
              refine wpQuiet_nil ?_
              rintro w6 ⟨s6, hs6⟩
              have hb6 : Below wr.heap.size wr w6 := by rw [hs6]; exact cur_step1 HW.out s6.h.1
              have HN6 := Lib.hid (show Blk w6 (wr.heap.size + 1) 30 [.int .i64 a.f, .int .i64 b.t] from by rw [hs6]; exact HN2.out.to s6.h.1)
              have HK06 := Lib.hid (HK0.out.to hb6)
              have HK16 := Lib.hid (HK1.out.to hb6)
              have HKA6 := Lib.hid (HKA.out.to hb6)
              have HB6 := Lib.hid (cur_step1 HB.out hb6)
              clear hb6 hs6 s6 q0 q1 hex hne K3 HRA HRC HN2 HW HK0 HK1 HKA HB
              have u0 : w6.cell? ⟨w.heap.size + 1, 0, none⟩ = some (.int .i64 x) := HK16.out.cell 0
              have u1 : w6.cell? ⟨w.heap.size + 1, 1, none⟩ = some (.int .i64 y) := HK16.out.cell 1
              have v0 : w6.cell? ⟨wr.heap.size + 1, 0, none⟩ = some (.int .i64 a.f) := HN6.out.cell 0
              have v1 : w6.cell? ⟨wr.heap.size + 1, 1, none⟩ = some (.int .i64 b.t) := HN6.out.cell 1
              have fu0 := HK16.out.frozen 0
              have fu1 := HK16.out.frozen 1
              go_wp2_with fail
              exact ⟨⟨m + 1, true, x, y, hlm, by simp, rfl, HI2.out, HK06.out, HK16.out, HKA6.out, HB6.out⟩, by simp [intOf]; omega⟩
        · have hme : m = js.length := by omega
          subst hme
          have HI2 := Lib.hid (tg_row HI.out)
          go_wp2_with fail
          exact ⟨⟨k + 1, f, x, y, hlt, by simp, rfl, HI2.out, HK0.out, HK1.out, HB.out⟩, by simp [intOf]; omega⟩
    · have hke : k = js.length := by omega
      subst hke
      have z0 : wr.cell? ⟨w.heap.size, 0, none⟩ = some (.int .i64 0) := HK0.out.cell 0
      have z1 : wr.cell? ⟨w.heap.size, 1, none⟩ = some (.int .i64 0) := HK0.out.cell 1
      have f0 := HK0.out.frozen 0
      have f1 := HK0.out.frozen 1
      have u0 : wr.cell? ⟨w.heap.size + 1, 0, none⟩ = some (.int .i64 x) := HK1.out.cell 0
      have u1 : wr.cell? ⟨w.heap.size + 1, 1, none⟩ = some (.int .i64 y) := HK1.out.cell 1
      have HI2 := Lib.hid (tg_end HI.out)
      go_wp2_with fail
      refine ret_fst (g := w.heap.size) (xs := [.int .i64 x, .int .i64 y]) rfl rfl rfl ((HK0.out.set 0 (.int .i64 x)).set 1 (.int .i64 y)) Try.underlying30 rfl win_info rfl ?_
      exact ⟨_, _, _, rfl, HI2.out, below_set (below_set HB.out (Nat.le_refl _) 0 _) (Nat.le_refl _) 1 _⟩
end Go.Proofs.Ytnbhplhhemkniaa
