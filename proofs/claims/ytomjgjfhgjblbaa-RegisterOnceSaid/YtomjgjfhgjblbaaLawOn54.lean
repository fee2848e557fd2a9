/-
  Chapter 54: the law RegisterOnce: the walk.
-/
import Derived.Test.YtomjgjfhgjblbaaCon54
import Derived.Test.YtomjgjfhgjblbaaList54
namespace Go.Proofs.Ytomjgjfhgjblbaa
open Go.RowKit
set_option maxRecDepth 100000
set_option maxHeartbeats 1000000
theorem squad_v (A : Option Addr) (c : Nat) (l : List Tr) (t : ByteArray) (d : Int) (S : List Bs) (w : World) (hl : l.length ≤ 400) (hr : Rd trE 3 w w.heap.size A l) (hS : squadB l t d = S) :
    Calls Try.prog 7 #[.slice A l.length c, .string t, .int .i64 d] w fun e w' => ∃ B cc, e = .returned (.slice B S.length cc) ∧ Rd strE 1 w' w'.heap.size B S ∧ Below w.heap.size w w' := by
  subst hS
  exact squad_p A c l t d w hl hr
theorem squad_0 (A : Option Addr) (c : Nat) (l : List Tr) (d : Int) (w : World) (hl : l.length ≤ 400) (hr : Rd trE 3 w w.heap.size A l) :
    Calls Try.prog 7 #[.slice A l.length c, .string ⟨#[]⟩, .int .i64 d] w fun e w' => ∃ B cc, e = .returned (.slice B 0 cc) ∧ Below w.heap.size w w' := by
  have hS : squadB l ⟨#[]⟩ d = [] := by unfold squadB; rw [gath_emp _ _ _ _ rfl]; simp [sortB, Lib.compact, Lib.compactUpTo]
  refine (squad_v A c l ⟨#[]⟩ d [] w hl hr hS).mono ?_
  rintro e w1 ⟨B, cc, rfl, _, hb⟩
  exact ⟨B, cc, rfl, hb⟩
theorem elig_0 (l : List Tr) (p : ByteArray) (d : Int) : eligB l p ⟨#[]⟩ d = false := by
  unfold eligB
  cases hk : lastK l p d l.length with
  | none => rfl
  | some k =>
    obtain ⟨_, z, hz, _, _⟩ := lastK_some hk
    rw [eligAt_some hz]; rfl
def OnR (l : List Tr) (w : World) (p t : ByteArray) (d : Int) (i : Value) (wr : World) : Prop := ∃ k : Nat, k ≤ l.length ∧ i = .int .i64 k ∧ Blk wr w.heap.size 24 [.string p, .string t, .int .i64 d] ∧ Below w.heap.size w wr
theorem law_once (A : Option Addr) (c : Nat) (l : List Tr) (p t : ByteArray) (d : Int) (w : World) (hl : l.length ≤ 9223372036854775807) (hc : l.length ≤ c) (hr : Rd trE 3 w w.heap.size A l) :
    Calls Try.prog 3 #[.slice A l.length c, .agg #[.string p, .string t, .int .i64 d]] w fun e w' => e = .returned (.bool true) ∧ Below w.heap.size w w' := by
  have HR := Lib.hid (hr.pre 16)
  obtain ⟨l', hl'⟩ : ∃ l', l' = l.take 16 := ⟨_, rfl⟩
  have hll' : l'.length ≤ 400 := by rw [hl', List.length_take]; omega
  have e2 : min l.length 16 = l'.length := by rw [hl', List.length_take, Nat.min_comm]
  rw [← hl'] at HR
  have HF := Lib.hid (list_f A c l.length)
  rw [e2] at HF
  clear hr hl' e2
  go_enter Try.func3, Try.ntmps3
  go_wp2_with fail
  refine (awake_any _).mono ?_
  rintro e w1 ⟨rfl, hb1⟩
  have hbx := (Blk.new w 24 [.string p, .string t, .int .i64 d]).to hb1
  have hb2 := cur_step0 hb1
  have HBX := Lib.hid hbx
  have HB := Lib.hid hb2
  clear hbx hb2 hb1
  go_wp2_with (go_at_call 5; refine (HF.out _ hl hc).mono ?_; rintro e w2 ⟨rfl, hb2⟩)
  have HX2 := Lib.hid (HBX.out.to hb2)
  have HB2 := Lib.hid (cur_step1 HB.out hb2)
  have HR2 := Lib.hid (HR.out.to HB2.out)
  clear hb2
  go_loopw [15] (OnR l' w p t d) (fun i _ => l'.length - (intOf i).toNat)
  case atStart => exact ⟨0, Nat.zero_le _, rfl, HX2.out, HB2.out⟩
  case round =>
    obtain ⟨k, hk, rfl, hx, hb⟩ := hrel
    have HXr := Lib.hid hx
    have HBr := Lib.hid hb
    clear hx hb
    rcases Nat.lt_or_ge k l'.length with hlt | hge
    · obtain ⟨z, hz⟩ : ∃ z, l'[k]? = some z := ⟨_, List.getElem?_eq_getElem hlt⟩
      obtain ⟨b, off, rfl, hbb, hcl⟩ := HR.out.at_ HBr.out hz
      obtain ⟨cp, ct, cd⟩ := tr_cells hcl
      have et := isE_to z.t
      clear hcl
      cases ht : isE z.t
      · rw [ht] at et
        have HT := Lib.hid ht
        clear ht
        go_wp2_with fail
        have y1 := (Blk.new wr 27 [.string z.p, .string z.t, .int .i64 z.d])
        have y2 := HXr.out.to (cur_new wr (.cells #[.string z.p, .string z.t, .int .i64 z.d] 27))
        have y3 := cur_step1 HBr.out (cur_new wr (.cells #[.string z.p, .string z.t, .int .i64 z.d] 27))
        have y4 := y1.lt
        have y5 := y2.lt
        have y6 := HXr.out.lt
        obtain ⟨w6, h6⟩ : ∃ w6, wr.alloc (.cells #[.string z.p, .string z.t, .int .i64 z.d] 27) = w6 := ⟨_, rfl⟩
        have h6b : Obj.cells #[.string z.p, .string z.t, .int .i64 z.d] 27 = .cells [.string z.p, .string z.t, .int .i64 z.d].toArray 27 := rfl
        rw [← h6b] at y1 y4
        rw [h6] at y1 y2 y3 y4 y5 ⊢
        clear h6 h6b
        obtain ⟨G, hG⟩ : ∃ G, G = wr.heap.size := ⟨_, rfl⟩
        rw [← hG] at y1 y4 ⊢
        have hwG : w.heap.size < G := by omega
        have e1 : w6.cell? ⟨G, 1, none⟩ = some (.string z.t) := y1.cell 1
        have c0 : w6.cell? ⟨w.heap.size, 0, none⟩ = some (.string p) := y2.cell 0
        have c2 : w6.cell? ⟨w.heap.size, 2, none⟩ = some (.int .i64 d) := y2.cell 2
        have HZ6 := Lib.hid y1
        have HX6 := Lib.hid y2
        have HB6 := Lib.hid y3
        have HR6 := Lib.hid (HR.out.to y3)
        obtain ⟨S, hS⟩ : ∃ S, squadB l' z.t d = S := ⟨_, rfl⟩
        have hSl : S.length ≤ 1000000 := by
          rw [← hS]
          unfold squadB
          refine Nat.le_trans (compact_subB _).length_le ?_
          rw [sortB_len]
          exact Nat.le_trans (gath_len _ _ _ _) (by omega)
        obtain ⟨iv, hiv⟩ : ∃ iv, decide (p.data.toList ∈ S) = iv := ⟨_, rfl⟩
        have HS := Lib.hid hS
        have HIV := Lib.hid hiv
        clear y1 y2 y3 hG y6 hS hiv cp ct cd
        go_region_held3 (fun w' => w'.cell? ⟨G, 1, none⟩ = some (.string z.t) ∧ w'.cell? ⟨w.heap.size, 0, none⟩ = some (.string p) ∧ w'.cell? ⟨w.heap.size, 2, none⟩ = some (.int .i64 d))
          (first
            | (go_keep; done)
            | (go_split_ands; refine ⟨?_, ?_, ?_⟩ <;> (rw [hb7.cell (by simp; omega)]; first | assumption | (go_keep; done)))
            | (go_split_ands; refine ⟨?_, ?_, ?_⟩ <;> (rw [hb8.cell (by have := hb7.size; simp at this ⊢; omega)]; first | assumption | (go_keep; done)))
            | (go_split_ands; refine ⟨?_, ?_, ?_⟩ <;> assumption))
          (first
            | (go_at_call 7; refine (squad_v _ _ l' z.t d S _ (by omega) (HR6.out.to ((Below.refl _ _).drew)) HS.out).mono ?_; rintro e w7 ⟨B7, c7, rfl, hrd7, hb7⟩; have HRD7 := Lib.hid hrd7; clear hrd7)
            | (go_at_call 6; refine (cont_b _ _ S p iv _ hSl HRD7.out HIV.out).mono ?_; rintro e w8 ⟨rfl, hb8⟩))
        have hb8' := ((((Below.refl w6.heap.size w6).drew).trans (hb7.mono (Nat.le_refl _))).trans (hb8.mono (by have := hb7.size; exact this)))
        have HZ8 := Lib.hid (HZ6.out.to hb8')
        have HX8 := Lib.hid (HX6.out.to hb8')
        have HB8 := Lib.hid (cur_step1 HB6.out hb8')
        have HR8 := Lib.hid (HR.out.to HB8.out)
        clear hb8' hb7 hb8
        obtain ⟨kv, hkv⟩ : ∃ kv, knownB l' p = kv := ⟨_, rfl⟩
        have HKV := Lib.hid hkv
        have e2 : w8.cell? ⟨w.heap.size, 0, none⟩ = some (.string p) := HX8.out.cell 0
        have hl8 := HX8.out.lt
        clear hkv
        go_wp2_with (go_at_call 8; refine (cont_t _ _ l' p w.heap.size kv _ (by omega) HR8.out e2 hl8 HKV.out).mono ?_; rintro e w9 ⟨rfl, hb9⟩)
        have HZ9 := Lib.hid (HZ8.out.to hb9)
        have HX9 := Lib.hid (HX8.out.to hb9)
        have HB9 := Lib.hid (cur_step1 HB8.out hb9)
        have HR9 := Lib.hid (HR.out.to HB9.out)
        clear hb9 e2 hl8
        obtain ⟨u, hu⟩ : ∃ u, teamB l' p d = u := ⟨_, rfl⟩
        have HU := Lib.hid hu
        have es := seq_to u z.t
        have HIN := Lib.hid (show iv = (kv && seq u z.t) by rw [← HIV.out, ← HS.out, in_eq HT.out, HKV.out, hu])
        have HNE := Lib.hid (show iv = false → eligB l' p z.t d = false from fun e => by
          cases h : eligB l' p z.t d
          · rfl
          · have := elig_in HT.out h
            rw [HS.out, HIV.out, e] at this
            cases this)
        clear hu
        cases kv
        · obtain rfl : iv = false := HIN.out
          have HEL := Lib.hid (HNE.out rfl)
          clear es
          go_wp2_with fail
          obtain ⟨CS, hCS⟩ : ∃ CS : List (Nat × Nat × Value), CS = [(G, 1, .string z.t), (w.heap.size, 0, .string p), (w.heap.size, 2, .int .i64 d)] := ⟨_, rfl⟩
          have K3 : Keep w9 w9 CS := by
            rw [hCS]
            refine ⟨Below.refl _ _, fun c hc => ?_⟩
            simp only [List.mem_cons, List.not_mem_nil, or_false] at hc
            rcases hc with rfl | rfl | rfl
            · exact ⟨HZ9.out.lt, HZ9.out.cell 1⟩
            · exact ⟨HX9.out.lt, HX9.out.cell 0⟩
            · exact ⟨HX9.out.lt, HX9.out.cell 2⟩
          have k0 : ∀ s : Wd w9 CS, s.w.cell? ⟨G, 1, none⟩ = some (.string z.t) := fun s => s.h.get (by simp [hCS])
          have k1 : ∀ s : Wd w9 CS, s.w.cell? ⟨w.heap.size, 0, none⟩ = some (.string p) := fun s => s.h.get (by simp [hCS])
          have k2 : ∀ s : Wd w9 CS, s.w.cell? ⟨w.heap.size, 2, none⟩ = some (.int .i64 d) := fun s => s.h.get (by simp [hCS])
          have hex : ∀ s : Wd w9 CS, ∃ s' : Wd w9 CS, s.w = s'.w := fun s => ⟨s, rfl⟩
          haveI hne : Nonempty (Wd w9 CS) := ⟨⟨_, K3⟩⟩
          clear hCS
          refine wp_region_wd w9 CS (by kernel_rfl) (by kernel_rfl) K3.drew ?_
          repeat (go_big_quiet_step (first | (go_at_call 11; refine (elig_p _ c l' p z.t d false _ (by omega) (HR9.out.to (Wd.h _).1) HEL.out).mono ?_; rintro e wa ⟨rfl, hba⟩; exact ⟨rfl, ⟨wa, (Wd.h _).to hba⟩, rfl⟩)))
          refine wpQuiet_nil ?_
          rintro wm ⟨s4, hs4⟩
          have hbm : Below w9.heap.size w9 wm := by rw [hs4]; exact s4.h.1
          clear hs4 s4
          go_wp2_with fail
          go_roundw
          case rel => exact ⟨k + 1, hlt, by simp, HX9.out.to hbm, cur_step1 HB9.out hbm⟩
          case measure => simp [intOf]; omega
        · cases hsv : seq u z.t
          · rw [hsv] at es
            obtain rfl : iv = false := by rw [HIN.out, hsv]; rfl
            have HEL := Lib.hid (HNE.out rfl)
            clear hsv
            go_wp2_with fail
            obtain ⟨CS, hCS⟩ : ∃ CS : List (Nat × Nat × Value), CS = [(G, 1, .string z.t), (w.heap.size, 0, .string p), (w.heap.size, 2, .int .i64 d)] := ⟨_, rfl⟩
            have K3 : Keep w9 w9 CS := by
              rw [hCS]
              refine ⟨Below.refl _ _, fun c hc => ?_⟩
              simp only [List.mem_cons, List.not_mem_nil, or_false] at hc
              rcases hc with rfl | rfl | rfl
              · exact ⟨HZ9.out.lt, HZ9.out.cell 1⟩
              · exact ⟨HX9.out.lt, HX9.out.cell 0⟩
              · exact ⟨HX9.out.lt, HX9.out.cell 2⟩
            have k0 : ∀ s : Wd w9 CS, s.w.cell? ⟨G, 1, none⟩ = some (.string z.t) := fun s => s.h.get (by simp [hCS])
            have k1 : ∀ s : Wd w9 CS, s.w.cell? ⟨w.heap.size, 0, none⟩ = some (.string p) := fun s => s.h.get (by simp [hCS])
            have k2 : ∀ s : Wd w9 CS, s.w.cell? ⟨w.heap.size, 2, none⟩ = some (.int .i64 d) := fun s => s.h.get (by simp [hCS])
            have hex : ∀ s : Wd w9 CS, ∃ s' : Wd w9 CS, s.w = s'.w := fun s => ⟨s, rfl⟩
            haveI hne : Nonempty (Wd w9 CS) := ⟨⟨_, K3⟩⟩
            clear hCS
            refine wp_region_wd w9 CS (by kernel_rfl) (by kernel_rfl) K3.drew ?_
            repeat (go_big_quiet_step (first | (go_at_call 10; refine (team_p _ c l' p d u _ (by omega) (HR9.out.to (Wd.h _).1) HU.out).mono ?_; rintro e wa ⟨rfl, hba⟩; exact ⟨rfl, ⟨wa, (Wd.h _).to hba⟩, rfl⟩) | (go_at_call 11; refine (elig_p _ c l' p z.t d false _ (by omega) (HR9.out.to (Wd.h _).1) HEL.out).mono ?_; rintro e wa ⟨rfl, hba⟩; exact ⟨rfl, ⟨wa, (Wd.h _).to hba⟩, rfl⟩)))
            refine wpQuiet_nil ?_
            rintro wm ⟨s4, hs4⟩
            have hbm : Below w9.heap.size w9 wm := by rw [hs4]; exact s4.h.1
            clear hs4 s4
            go_wp2_with fail
            go_roundw
            case rel => exact ⟨k + 1, hlt, by simp, HX9.out.to hbm, cur_step1 HB9.out hbm⟩
            case measure => simp [intOf]; omega
          · rw [hsv] at es
            obtain rfl : iv = true := by rw [HIN.out, hsv]; rfl
            clear hsv
            cases hv : eligB l' p z.t d
            · have HEL := Lib.hid hv
              clear hv
              go_wp2_with fail
              obtain ⟨CS, hCS⟩ : ∃ CS : List (Nat × Nat × Value), CS = [(G, 1, .string z.t), (w.heap.size, 0, .string p), (w.heap.size, 2, .int .i64 d)] := ⟨_, rfl⟩
              have K3 : Keep w9 w9 CS := by
                rw [hCS]
                refine ⟨Below.refl _ _, fun c hc => ?_⟩
                simp only [List.mem_cons, List.not_mem_nil, or_false] at hc
                rcases hc with rfl | rfl | rfl
                · exact ⟨HZ9.out.lt, HZ9.out.cell 1⟩
                · exact ⟨HX9.out.lt, HX9.out.cell 0⟩
                · exact ⟨HX9.out.lt, HX9.out.cell 2⟩
              have k0 : ∀ s : Wd w9 CS, s.w.cell? ⟨G, 1, none⟩ = some (.string z.t) := fun s => s.h.get (by simp [hCS])
              have k1 : ∀ s : Wd w9 CS, s.w.cell? ⟨w.heap.size, 0, none⟩ = some (.string p) := fun s => s.h.get (by simp [hCS])
              have k2 : ∀ s : Wd w9 CS, s.w.cell? ⟨w.heap.size, 2, none⟩ = some (.int .i64 d) := fun s => s.h.get (by simp [hCS])
              have hex : ∀ s : Wd w9 CS, ∃ s' : Wd w9 CS, s.w = s'.w := fun s => ⟨s, rfl⟩
              haveI hne : Nonempty (Wd w9 CS) := ⟨⟨_, K3⟩⟩
              clear hCS
              refine wp_region_wd w9 CS (by kernel_rfl) (by kernel_rfl) K3.drew ?_
              repeat (go_big_quiet_step (first | (go_at_call 10; refine (team_p _ c l' p d u _ (by omega) (HR9.out.to (Wd.h _).1) HU.out).mono ?_; rintro e wa ⟨rfl, hba⟩; exact ⟨rfl, ⟨wa, (Wd.h _).to hba⟩, rfl⟩) | (go_at_call 11; refine (elig_p _ c l' p z.t d false _ (by omega) (HR9.out.to (Wd.h _).1) HEL.out).mono ?_; rintro e wa ⟨rfl, hba⟩; exact ⟨rfl, ⟨wa, (Wd.h _).to hba⟩, rfl⟩)))
              refine wpQuiet_nil ?_
              rintro wm ⟨s4, hs4⟩
              have hbm : Below w9.heap.size w9 wm := by rw [hs4]; exact s4.h.1
              clear hs4 s4
              go_wp2_with fail
              go_roundw
              case rel => exact ⟨k + 1, hlt, by simp, HX9.out.to hbm, cur_step1 HB9.out hbm⟩
              case measure => simp [intOf]; omega
            · have HEL := Lib.hid hv
              clear hv
              go_wp2_with fail
              obtain ⟨CS, hCS⟩ : ∃ CS : List (Nat × Nat × Value), CS = [(G, 1, .string z.t), (w.heap.size, 0, .string p), (w.heap.size, 2, .int .i64 d)] := ⟨_, rfl⟩
              have K3 : Keep w9 w9 CS := by
                rw [hCS]
                refine ⟨Below.refl _ _, fun c hc => ?_⟩
                simp only [List.mem_cons, List.not_mem_nil, or_false] at hc
                rcases hc with rfl | rfl | rfl
                · exact ⟨HZ9.out.lt, HZ9.out.cell 1⟩
                · exact ⟨HX9.out.lt, HX9.out.cell 0⟩
                · exact ⟨HX9.out.lt, HX9.out.cell 2⟩
              have k0 : ∀ s : Wd w9 CS, s.w.cell? ⟨G, 1, none⟩ = some (.string z.t) := fun s => s.h.get (by simp [hCS])
              have k1 : ∀ s : Wd w9 CS, s.w.cell? ⟨w.heap.size, 0, none⟩ = some (.string p) := fun s => s.h.get (by simp [hCS])
              have k2 : ∀ s : Wd w9 CS, s.w.cell? ⟨w.heap.size, 2, none⟩ = some (.int .i64 d) := fun s => s.h.get (by simp [hCS])
              have hex : ∀ s : Wd w9 CS, ∃ s' : Wd w9 CS, s.w = s'.w := fun s => ⟨s, rfl⟩
              haveI hne : Nonempty (Wd w9 CS) := ⟨⟨_, K3⟩⟩
              clear hCS
              refine wp_region_wd w9 CS (by kernel_rfl) (by kernel_rfl) K3.drew ?_
              repeat (go_big_quiet_step (first | (go_at_call 10; refine (team_p _ c l' p d u _ (by omega) (HR9.out.to (Wd.h _).1) HU.out).mono ?_; rintro e wa ⟨rfl, hba⟩; exact ⟨rfl, ⟨wa, (Wd.h _).to hba⟩, rfl⟩) | (go_at_call 11; refine (elig_p _ c l' p z.t d true _ (by omega) (HR9.out.to (Wd.h _).1) HEL.out).mono ?_; rintro e wa ⟨rfl, hba⟩; exact ⟨rfl, ⟨wa, (Wd.h _).to hba⟩, rfl⟩)))
              refine wpQuiet_nil ?_
              rintro wm ⟨s4, hs4⟩
              have hbm : Below w9.heap.size w9 wm := by rw [hs4]; exact s4.h.1
              clear hs4 s4
              go_wp2_with fail
              go_roundw
              case rel => exact ⟨k + 1, hlt, by simp, HX9.out.to hbm, cur_step1 HB9.out hbm⟩
              case measure => simp [intOf]; omega
      · rw [ht] at et
        clear ht
        go_wp2_with fail
        go_roundw
        case rel => exact ⟨k + 1, hlt, by simp, HXr.out.to (cur_new _ _), cur_step1 HBr.out (cur_new _ _)⟩
        case measure => simp [intOf]; omega
    · obtain rfl : k = l'.length := by omega
      clear hge
      have HRr := Lib.hid (HR.out.to HBr.out)
      have HE0 := Lib.hid (elig_0 l' p d)
      have c0 : wr.cell? ⟨w.heap.size, 0, none⟩ = some (.string p) := HXr.out.cell 0
      have c2 : wr.cell? ⟨w.heap.size, 2, none⟩ = some (.int .i64 d) := HXr.out.cell 2
      go_wp2_with (first
        | (go_at_call 11; refine (elig_p _ _ l' p ⟨#[]⟩ d false _ (by omega) HRr.out HE0.out).mono ?_; rintro e w4 ⟨rfl, hb4⟩; have d2 := (hb4.cell (p := ⟨w.heap.size, 2, none⟩) HXr.out.lt).trans c2)
        | (go_at_call 7; refine (squad_0 _ _ l' d _ (by omega) (HRr.out.to hb4)).mono ?_; rintro e w5 ⟨B5, c5, rfl, hb5⟩))
      go_ret
      exact ⟨rfl, cur_step1 HBr.out (cur_step1 hb4 hb5)⟩
end Go.Proofs.Ytomjgjfhgjblbaa
