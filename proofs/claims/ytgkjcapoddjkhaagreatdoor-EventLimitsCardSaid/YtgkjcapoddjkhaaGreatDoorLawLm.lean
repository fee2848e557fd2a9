/-
  EventLimits: the walk.
-/
import Derived.Test.YtgkjcapoddjkhaaGreatDoorLawLb
set_option linter.unusedSimpArgs false
set_option linter.unusedVariables false
namespace Go.Proofs.YtgkjcapoddjkhaaGreatDoor
open Go.RowKit
set_option maxRecDepth 100000
set_option maxHeartbeats 4000000
def repS (e : Ev) (n : Nat) : List UInt8 := (List.replicate n e).flatMap fun x => txtE x ++ [10]
theorem repS_len {e : Ev} (h : chkE e = 0) (n : Nat) : (repS e n).length ≤ 201 * n := by
  have := flat_len (fun x => txtE x ++ [10]) 201 (List.replicate n e) (fun x hx => by
    obtain ⟨_, rfl⟩ := List.mem_replicate.1 hx
    have : (txtE x).length ≤ 200 := txt_len (okE_of h)
    rw [List.length_append]
    show _ + 1 ≤ _
    omega)
  rw [List.length_replicate] at this
  exact this
theorem repS_snoc (e : Ev) (n : Nat) : repS e (n + 1) = repS e n ++ (txtE e ++ [10]) := by
  unfold repS
  rw [List.replicate_succ', List.flatMap_append]
  simp
theorem log_rep {e : Ev} (h : chkE e = 0) (n : Nat) (hn : n ≤ 4000) : TxtLog (List.replicate n e) = (repS e n, 0) := by
  unfold TxtLog
  rw [if_neg (by rw [List.length_replicate]; omega)]
  rcases log_cases (List.replicate n e) [] with ⟨h1, h2, h3⟩ | ⟨h1, h2⟩
  · refine Prod.ext ?_ h1
    rw [h3]; rfl
  · exfalso
    have key : ∀ (l : List Ev) (acc : List UInt8), (∀ x ∈ l, chkE x = 0) → (logF acc l).2 = 0 := by
      intro l
      induction l with
      | nil => intro acc _; rfl
      | cons x r ih => intro acc hx; unfold logF; rw [if_neg (by simpa using hx x List.mem_cons_self)]; exact ih _ (fun y hy => hx y (List.mem_cons_of_mem _ hy))
    exact h1 (key _ _ (fun x hx => by obtain ⟨_, rfl⟩ := List.mem_replicate.1 hx; exact h))
theorem log_over {e : Ev} {n : Nat} (hn : 4000 < n) : TxtLog (List.replicate n e) = ([], 9) := by
  unfold TxtLog
  rw [if_pos (by rw [List.length_replicate]; exact hn)]
def LmR (e : Ev) (w2 : World) (iv lv : Value) (wr : World) : Prop := ∃ (k : Nat) (A : Option Addr) (c : Nat), k ≤ 4000 ∧ iv = .int .i64 k ∧ lv = .slice A k c ∧ OwnL evE 19 29 w2.heap.size wr (.slice A (List.replicate k e).length c) (List.replicate k e) ∧ Below w2.heap.size w2 wr
theorem law_limits (e : Ev) (n : Int) (hn : 0 ≤ n ∧ n ≤ 255) (w : World) (hh : 0 ≤ e.ball.how) (hs : 0 ≤ e.ball.src) (hw : LibW w) :
    Calls Tryz.prog 7 #[evV e, .int .u8 n] w fun e' w' => e' = .returned (.bool true) ∧ Below w.heap.size w w' := by
  have HL := Lib.hid hw
  have HE := Lib.hid (And.intro hh hs)
  obtain ⟨W1, hW1⟩ : ∃ y, w.alloc (.cells (evE e).toArray 29) = y := ⟨_, rfl⟩
  have HB1 := Lib.hid (show Below w.heap.size w W1 by rw [← hW1]; exact cur_new _ _)
  have HK1 := Lib.hid (show Blk W1 w.heap.size 29 (evE e) by rw [← hW1]; exact Blk.new w _ _)
  have S1 := Lib.hid (show w.alloc (.cells #[.int .u8 e.kind, .int .i64 e.side, .int .i64 e.player, .int .i64 e.other, .bool e.yes, .int .i64 e.runs, .int .i64 e.overs, .int .u8 e.ball.ty, .int .u8 e.ball.src, .int .i64 e.ball.runs, .int .i64 e.ball.short, .int .i64 e.ball.bd, .bool e.ball.cr, .int .u8 e.ball.how, .int .i64 e.ball.vic, .int .i64 e.ball.fd, .int .i64 e.ball.sd, .bool e.ball.sub, .int .i64 e.ball.sec] 29) = W1 from hW1)
  obtain ⟨b, hb⟩ : ∃ b, w.heap.size = b := ⟨_, rfl⟩
  have HBB := Lib.hid hb
  rw [hb] at HK1
  clear hW1 hb hw hh hs
  unfold evV
  go_enter Tryz.func7, Tryz.ntmps7
  go_wp2_with (first | rw [S1.out, HBB.out])
  refine (awake8_p _ (HL.out.to HB1.out)).mono ?_
  rintro e' w2 ⟨rfl, hb2⟩
  have HB2 := Lib.hid (cur_step1 HB1.out hb2)
  have HK2 := Lib.hid (HK1.out.to hb2)
  clear hb2
  go_wp2_with (refine wpList_loadC rfl _ 29 rfl b 29 (evE e) _ rfl (by rfl) (by rfl) (by rfl) HK2.out ?_)
  refine (chke_p e _).mono ?_
  rintro e' w4 ⟨rfl, hb4⟩
  have HB4 := Lib.hid (cur_step1 HB2.out hb4)
  have HK4 := Lib.hid (HK2.out.to hb4)
  clear hb4
  generalize Value.agg #[.int .u8 e.kind, .int .i64 e.side, .int .i64 e.player, .int .i64 e.other, .bool e.yes, .int .i64 e.runs, .int .i64 e.overs, .int .u8 e.ball.ty, .int .u8 e.ball.src, .int .i64 e.ball.runs, .int .i64 e.ball.short, .int .i64 e.ball.bd, .bool e.ball.cr, .int .u8 e.ball.how, .int .i64 e.ball.vic, .int .i64 e.ball.fd, .int .i64 e.ball.sd, .bool e.ball.sub, .int .i64 e.ball.sec] = av
  by_cases hc : chkE e = 0
  · have HC := Lib.hid hc
    rw [hc]
    clear hc
    obtain ⟨r, hr⟩ : ∃ r, n.tmod 32 = r := ⟨_, rfl⟩
    by_cases h0 : r = 0
    · subst h0
      go_wp2_with (fail)
      obtain ⟨M, hM⟩ : ∃ M : Nat, 4000 = M := ⟨_, rfl⟩
      have HM := Lib.hid hM
      clear hM
      go_loopw [26, 5] (LmR e w4) (fun i _ _ => M - (intOf i).toNat)
      case atStart => exact ⟨0, none, 0, by omega, rfl, rfl, World.ownsRow_nil _ _ _ _, Below.refl _ _⟩
      case round =>
        obtain ⟨k, A, c, hk, rfl, rfl, hown, hb⟩ := hrel
        have HO := Lib.hid hown
        have HB := Lib.hid hb
        clear hown hb
        obtain ⟨W6, hW6⟩ : ∃ y, wr.alloc (.cells (evE e).toArray 29) = y := ⟨_, rfl⟩
        have HB6 := Lib.hid (show Below wr.heap.size wr W6 by rw [← hW6]; exact cur_new _ _)
        have H6 := Lib.hid (show W6.heap[wr.heap.size]? = some (.cells (evE e).toArray 29) by rw [← hW6]; exact heap_alloc_new _ _)
        have HO6 := Lib.hid (own_below HO.out HB6.out (Nat.le_refl _))
        have S6 := Lib.hid hW6
        have hlr : (List.replicate k e).length = k := List.length_replicate
        have HLR := Lib.hid hlr
        have HKr := Lib.hid (HK4.out.to HB.out)
        clear hW6 hlr
        by_cases hk4 : k < 4000
        · go_wp2_with (first | (refine wpList_loadC rfl _ 29 rfl b 29 [.int .u8 e.kind, .int .i64 e.side, .int .i64 e.player, .int .i64 e.other, .bool e.yes, .int .i64 e.runs, .int .i64 e.overs, .int .u8 e.ball.ty, .int .u8 e.ball.src, .int .i64 e.ball.runs, .int .i64 e.ball.short, .int .i64 e.ball.bd, .bool e.ball.cr, .int .u8 e.ball.how, .int .i64 e.ball.vic, .int .i64 e.ball.fd, .int .i64 e.ball.sd, .bool e.ball.sub, .int .i64 e.ball.sec] _ rfl (by rfl) (by rfl) (by rfl) HKr.out ?_) | (refine wpList_app1 Tryz.evElem _ rfl (.tmp 28) (.tmp 30) rfl w4.heap.size A c (List.replicate k e) (by simp only [HLR.out]; rfl) ?o1 e wr.heap.size 1 rfl ?o2 ?o3 ?o4 ?o5 ?_))
          case o1 => exact World.ownsRow.alloc HO.out _
          case o2 => first | exact heap_alloc_new _ _ | exact (Array.getElem?_eq_some_iff.1 (heap_alloc_new _ _)).2
          case o3 => rw [HLR.out]; unfold maxLen; omega
          case o4 => rw [HLR.out]; omega
          case o5 => have := HB.out.size; first | omega | (simp; omega)
          intro g cap w8 ha
          have hlr := HLR.out
          have hb8 := app1_end (f := e) (enc := evE) (l := List.replicate k e) HB.out (own_base HO.out) (cur_new wr _) (by rw [hlr]; exact ha)
          have HO8 := Lib.hid (show OwnL evE 19 29 w4.heap.size w8 (.slice (some ⟨g, 0, none⟩) (List.replicate (k + 1) e).length cap) (List.replicate (k + 1) e) by rw [List.replicate_succ']; exact hb8.2)
          have HB8 := Lib.hid hb8.1
          clear ha hb8 hlr
          go_wp2_with (fail)
          exact ⟨⟨k + 1, _, cap, by omega, rfl, rfl, HO8.out, HB8.out⟩, by show M - (k + 1) < M - k; have := HM.out; omega⟩
        · have hk5 : k = 4000 := by omega
          obtain ⟨K, hK⟩ : ∃ K, List.replicate k e = K := ⟨_, rfl⟩
          have hKl : K.length = k := by rw [← hK]; exact HLR.out
          have HKK := Lib.hid (show K = List.replicate 4000 e by rw [← hK, hk5])
          obtain ⟨S, hS⟩ : ∃ S, repS e 4000 = S := ⟨_, rfl⟩
          have HTX := Lib.hid (show TxtLog K = (S, 0) by rw [HKK.out, ← hS]; exact log_rep HC.out 4000 (Nat.le_refl _))
          have HLN := Lib.hid (show S.length ≤ 804000 by rw [← hS]; exact repS_len HC.out 4000)
          have HSS := Lib.hid hS
          clear hS
          have HKN := Lib.hid (show K.length = 4000 by rw [hKl, hk5])
          have hgk : ¬ K.length < 4000 := by omega
          have HOK : Hid (OwnL evE 19 29 w4.heap.size wr (.slice A K.length c) K) := Lib.hid (by rw [← hK]; exact HO.out)
          have HOA : Hid (World.ownsRow wr w4.heap.size 29 19 (.slice A K.length c) K.length (K.flatMap evE)) := HOK
          have HRd := Lib.hid (show Rd evE 19 wr wr.heap.size A K by
            obtain ⟨A', c', e2, h, _⟩ := OwnL.rd evE_len HOK.out
            injection e2 with e2 _ _
            rw [e2]; exact h)
          subst hKl
          clear hK hk5 hk4 HO HO6 HLR H6 HB6 S6
          have gK : decide ((K.length : Int) < 4000) = false := by have := HKN.out; simp; omega
          go_wp2_with (fail)
          refine (textlog_p K A c wr (by have := HKN.out; omega) (fun x hx => by rw [HKK.out] at hx; obtain ⟨_, rfl⟩ := List.mem_replicate.1 hx; exact HE.out.1) (HL.out.to (cur_step1 HB4.out HB.out)) HRd.out).mono ?_
          rintro e' w5 ⟨rfl, hb5⟩
          rw [HTX.out]
          dsimp only
          have HB5 := Lib.hid (cur_step1 HB.out hb5)
          have HO5 := Lib.hid (own_below HOK.out hb5 (Nat.le_refl _))
          have HRd5 := Lib.hid (HRd.out.to hb5)
          have HK5 := Lib.hid (HKr.out.to hb5)
          clear hb5
          obtain ⟨sS, hsS⟩ : ∃ y, sA S = y := ⟨_, rfl⟩
          rw [hsS]
          have HSB := Lib.hid hsS
          have hsz : sS.size ≤ 804000 := by rw [← hsS, sA_sz]; exact HLN.out
          clear hsS
          have HTE := Lib.hid (show TxtE e = (txtE e, 0) by unfold TxtE; rw [if_neg (by rw [HC.out]; decide)])
          have HTL := Lib.hid (show (txtE e).length ≤ 200 from txt_len (okE_of HC.out))
          go_wp2_with ((refine wpList_loadC rfl _ 29 rfl b 29 (evE e) _ rfl (by rfl) (by rfl) (by rfl) HK5.out ?_))
          refine (text_p e HE.out.1 _ (HL.out.to (cur_step1 HB4.out HB5.out))).mono ?_
          rintro e' w6 ⟨rfl, hb6⟩
          rw [HTE.out]
          dsimp only
          have HB6 := Lib.hid (cur_step1 HB5.out hb6)
          have HO6 := Lib.hid (own_below HO5.out hb6 (Nat.le_refl _))
          have HRd6 := Lib.hid (HRd5.out.to hb6)
          have HK6 := Lib.hid (HK5.out.to hb6)
          clear hb6
          obtain ⟨tS, htS⟩ : ∃ y, sA (txtE e) = y := ⟨_, rfl⟩
          rw [htS]
          have HTB := Lib.hid htS
          have htz : tS.size ≤ 200 := by rw [← htS, sA_sz]; exact HTL.out
          clear htS
          go_wp2_with (first | (refine wpList_loadC rfl _ 29 rfl b 29 [.int .u8 e.kind, .int .i64 e.side, .int .i64 e.player, .int .i64 e.other, .bool e.yes, .int .i64 e.runs, .int .i64 e.overs, .int .u8 e.ball.ty, .int .u8 e.ball.src, .int .i64 e.ball.runs, .int .i64 e.ball.short, .int .i64 e.ball.bd, .bool e.ball.cr, .int .u8 e.ball.how, .int .i64 e.ball.vic, .int .i64 e.ball.fd, .int .i64 e.ball.sd, .bool e.ball.sub, .int .i64 e.ball.sec] _ rfl (by rfl) (by rfl) (by rfl) HK6.out ?_) | (refine wpList_app1 Tryz.evElem _ rfl (.tmp 44) (.tmp 46) rfl w4.heap.size A c K rfl ?o1 e w6.heap.size 1 rfl ?o2 ?o3 ?o4 ?o5 ?_))
          case o1 => exact World.ownsRow.alloc HO6.out _
          case o2 => first | exact heap_alloc_new _ _ | exact (Array.getElem?_eq_some_iff.1 (heap_alloc_new _ _)).2
          case o3 => have := HKN.out; unfold maxLen; omega
          case o4 => have := HKN.out; omega
          case o5 => have := HB6.out.size; first | omega | (simp; omega)
          intro g cap w8 ha
          have hb8 := app1_end (f := e) (enc := evE) (l := K) HB6.out (own_base HO6.out) (cur_new w6 _) ha
          have HB8 := Lib.hid hb8.1
          have HRn := Lib.hid (show Rd evE 19 w8 w8.heap.size (some ⟨g, 0, none⟩) (K ++ [e]) by
            obtain ⟨A', c', e2, h, _⟩ := OwnL.rd evE_len hb8.2
            injection e2 with e2 _ _
            rw [e2]; exact h)
          have HRo := Lib.hid (show Rd evE 19 w8 w8.heap.size A K by
            have h0 : 0 < K.length := by have := HKN.out; omega
            obtain ⟨A', c', e2, h, hz⟩ := OwnL.rd evE_len HO6.out
            injection e2 with e2 _ _
            subst e2
            obtain ⟨b9, o9, e9, hlt, _⟩ := h 0 _ (List.getElem?_eq_getElem h0)
            subst e9
            have h9 := (hz _ _ rfl).2
            subst h9
            have hal : Rd evE 19 (w6.alloc (.cells (evE e).toArray 29)) (w6.alloc (.cells (evE e).toArray 29)).heap.size (some ⟨b9, 0, none⟩) K := h.to (cur_new w6 _)
            exact (hal.app evE_len ha (Nat.le_refl _) (Nat.le_refl _)).more ha.grown.size)
          have HKX := Lib.hid (show TxtLog (K ++ [e]) = ([], 9) by rw [HKK.out, ← List.replicate_succ']; exact log_over (by decide))
          obtain ⟨K1, hK1⟩ : ∃ K1, K ++ [e] = K1 := ⟨_, rfl⟩
          have hK1l : K.length + 1 = K1.length := by rw [← hK1]; simp
          have HK1H := Lib.hid (show ∀ x ∈ K1, 0 ≤ x.ball.how by
            intro x hx
            rw [← hK1, HKK.out, ← List.replicate_succ'] at hx
            obtain ⟨_, rfl⟩ := List.mem_replicate.1 hx
            exact HE.out.1)
          rw [hK1] at HRn HKX
          rw [hK1l]
          have HK1L := Lib.hid (show K1.length = 4001 by rw [← hK1l, HKN.out])
          clear ha hb8 hK1 hK1l
          go_wp2_with (fail)
          refine (textlog_p K1 _ cap w8 (by have := HK1L.out; omega) HK1H.out (HL.out.to (cur_step1 HB4.out HB8.out)) HRn.out).mono ?_
          rintro e' w9 ⟨rfl, hb9⟩
          rw [HKX.out]
          dsimp only
          have HB9 := Lib.hid (cur_step1 HB8.out hb9)
          have HRd9 := Lib.hid (HRo.out.to hb9)
          clear hb9
          generalize sA [] = s0
          go_wp2_with (fail)
          have hcA := parlog_p S (by have := HLN.out; omega) w9 (HL.out.to (cur_step1 HB4.out HB9.out))
          rw [HSB.out] at hcA
          refine hcA.mono ?_
          clear hcA
          obtain ⟨P, hP⟩ : ∃ P, ParLogP S = P := ⟨_, rfl⟩
          rw [hP]
          rintro e' wA ⟨A5, c5, B5, d5, rfl, ho5, _, hbA⟩
          have HO5' := Lib.hid ho5
          have HBA := Lib.hid (cur_step1 HB9.out hbA)
          have HRdA := Lib.hid (HRd9.out.to hbA)
          have HPP := Lib.hid hP
          clear ho5 hbA hP
          have g3 : (9223372036854775807 < sS.size + tS.size) = False := by simp; omega
          have g4 : (9223372036854775807 < sS.size + tS.size + 1) = False := by simp; omega
          obtain ⟨L, hL⟩ : ∃ L : Int, (sS.size : Int) + tS.size + 1 = L := ⟨_, rfl⟩
          have hL1 : 0 ≤ L ∧ L ≤ 900000 := by omega
          have hwL : IntKind.i64.wrap ((sS.size : Int) + tS.size) = (sS.size : Int) + tS.size := by
            unfold IntKind.wrap; simp [IntKind.signed, IntKind.bits]; omega
          have hwL2 : IntKind.i64.wrap ((sS.size : Int) + tS.size + 1) = (sS.size : Int) + tS.size + 1 := by
            unfold IntKind.wrap; simp [IntKind.signed, IntKind.bits]; omega
          by_cases hbig : 262144 < (sS.size : Int) + tS.size + 1
          · have gb : decide (262144 < (sS.size : Int) + tS.size + 1) = true := by simpa using hbig
            have HBg := Lib.hid (And.intro gb hwL2)
            clear hbig hL hL1
            go_wp2_with (fail)
            go_ret
            exact ⟨rfl, cur_step1 HB4.out HBA.out⟩
          · have gb : decide (262144 < (sS.size : Int) + tS.size + 1) = false := by simpa using hbig
            have HSZ := Lib.hid (show sS.size + tS.size + 1 ≤ 262144 by omega)
            have hlt2 : ¬ (262144 < (sS.size : Int) + tS.size + 1) := hbig
            clear hbig hL hL1
            obtain ⟨TB, hTB⟩ : ∃ y, sS ++ tS ++ (⟨#[10]⟩ : ByteArray) = y := ⟨_, rfl⟩
            have HTX2 := Lib.hid (show TB = sA (S ++ (txtE e ++ [10])) by
              rw [← hTB, ← HSB.out, ← HTB.out, sA_app]
              have e9 := sA_app (S ++ txtE e) [10]
              rw [List.append_assoc] at e9
              exact e9)
            have HSTB := Lib.hid hTB
            clear hTB
            go_wp2_with (fail)
            rw [HSTB.out, HTX2.out]
            have HPM := Lib.hid (show ParLogP (S ++ (txtE e ++ [10])) = ([], [⟨1, 1, 9⟩]) by
              rw [← HSS.out, ← repS_snoc]
              refine log_many (List.replicate (4000 + 1) e) (by rw [List.length_replicate]; decide) (fun x hx => by obtain ⟨_, rfl⟩ := List.mem_replicate.1 hx; exact ⟨HC.out, HE.out.2, HE.out.1⟩) ?_
              show (repS e (4000 + 1)).length ≤ _
              rw [repS_snoc, HSS.out, List.length_append, List.length_append]
              have h1 := HSZ.out
              rw [← HSB.out, ← HTB.out, sA_sz, sA_sz] at h1
              simp only [List.length_cons, List.length_nil]
              omega)
            have HPK := Lib.hid (show P = (K, []) by
              rw [← HPP.out, ← HSS.out, HKK.out]
              refine log_back (List.replicate 4000 e) (by rw [List.length_replicate]; exact Nat.le_refl _) (fun x hx => by obtain ⟨_, rfl⟩ := List.mem_replicate.1 hx; exact ⟨HC.out, HE.out.2, HE.out.1⟩) ?_
              show (repS e 4000).length ≤ _
              rw [HSS.out]
              have h1 := HSZ.out
              rw [← HSB.out, sA_sz] at h1
              omega)
            obtain ⟨P1, P2⟩ := P
            have hp1 : P1 = K := congrArg Prod.fst HPK.out
            have hp2 : P2 = [] := congrArg Prod.snd HPK.out
            subst hp1 hp2
            dsimp only
            have hcB := parlog_p (S ++ (txtE e ++ [10])) (by rw [List.length_append, List.length_append]; have := HLN.out; have := HTL.out; simp; omega) wA (HL.out.to (cur_step1 HB4.out HBA.out))
            rw [HPM.out] at hcB
            refine hcB.mono ?_
            clear hcB
            rintro e' wB ⟨A7, c7, B7, d7, rfl, _, hdg, hbB⟩
            dsimp only at hdg ⊢
            have HBB2 := Lib.hid (cur_step1 HBA.out hbB)
            have HRdB := Lib.hid (HRdA.out.to hbB)
            have HRdP := Lib.hid (show Rd evE 19 wB wB.heap.size A5 P1 by
              obtain ⟨A', c', e2, h, _⟩ := OwnL.rd evE_len HO5'.out
              injection e2 with e2 _ _
              rw [e2]; exact h.to hbB)
            obtain ⟨B2, cb2, e2, hrd, hz⟩ := OwnL.rd dgE_len hdg
            obtain ⟨g7, off, rfl, hbl, hcl⟩ := hrd 0 ⟨1, 1, 9⟩ rfl
            obtain rfl : off = 0 := (hz g7 off rfl).2
            injection e2 with e21 _ e23
            subst e21 e23
            have q0 : wB.cell? ⟨g7, 0, none⟩ = some (.int .i64 1) := by simpa using hcl 0 _ rfl
            have q1 : wB.cell? ⟨g7, 1, none⟩ = some (.int .i64 1) := by simpa using hcl 1 _ rfl
            have q2 : wB.cell? ⟨g7, 2, none⟩ = some (.int .i64 9) := by simpa using hcl 2 _ rfl
            have HQ := Lib.hid (And.intro q0 (And.intro q1 (And.intro q2 hbl)))
            clear hbB hdg hrd hz hcl q0 q1 q2 hbl
            go_wp2_with (fail)
            refine (same_p A5 A c5 c P1 P1 wB (by have := HKN.out; omega) (by have := HKN.out; omega) HRdP.out HRdB.out).mono ?_
            rintro e' wC ⟨rfl, hbC⟩
            have hdk : decide (P1 = P1) = true := by simp
            rw [hdk]
            have q0 : wC.cell? ⟨g7, 0, none⟩ = some (.int .i64 1) := (hbC.cell (p := ⟨g7, 0, none⟩) HQ.out.2.2.2).trans HQ.out.1
            have q1 : wC.cell? ⟨g7, 1, none⟩ = some (.int .i64 1) := (hbC.cell (p := ⟨g7, 1, none⟩) HQ.out.2.2.2).trans HQ.out.2.1
            have q2 : wC.cell? ⟨g7, 2, none⟩ = some (.int .i64 9) := (hbC.cell (p := ⟨g7, 2, none⟩) HQ.out.2.2.2).trans HQ.out.2.2.1
            have q3 : g7 < wC.heap.size := Nat.lt_of_lt_of_le HQ.out.2.2.2 hbC.size
            have kd : ∀ w : World, (binOp .eql 50 (.agg #[.int .i64 1, .int .i64 1, .int .i64 9]) (.agg #[.int .i64 1, .int .i64 1, .int .i64 9])).run Tryz.prog w = .ok (.bool true) w := fun w => dg_eql ⟨1, 1, 9⟩ ⟨1, 1, 9⟩ w
            have HBC := Lib.hid (cur_step1 HBB2.out hbC)
            clear hbC hdk
            go_wp2_with (fail)
            go_ret
            exact ⟨rfl, cur_step1 HB4.out HBC.out⟩
    · have g0 : (r != 0) = true := by simpa using h0
      go_wp2_with (fail)
      go_ret
      exact ⟨rfl, HB4.out⟩
  · obtain ⟨v, hv⟩ : ∃ v, chkE e = v := ⟨_, rfl⟩
    have gv : (v != 0) = true := by rw [← hv]; simpa using hc
    rw [hv]
    clear hc hv
    go_wp2_with (fail)
    go_ret
    exact ⟨rfl, HB4.out⟩
end Go.Proofs.YtgkjcapoddjkhaaGreatDoor
