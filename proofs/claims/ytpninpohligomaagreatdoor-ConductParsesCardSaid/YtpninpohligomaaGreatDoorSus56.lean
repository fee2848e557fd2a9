/-
  Chapter 56: Suspensions of the program.
-/
import Derived.Test.YtpninpohligomaaGreatDoorMat56
import Derived.Test.YtpninpohligomaaGreatDoorApp
import Derived.Test.YtpninpohligomaaGreatDoorStr
set_option linter.unusedSimpArgs false
set_option linter.unusedVariables false
namespace Go.Proofs.YtpninpohligomaaGreatDoor
open Go.RowKit
set_option maxRecDepth 100000
set_option maxHeartbeats 1000000
theorem points_p' (A : Option Addr) (c n : Nat) (l : List Of) (p : ByteArray) (d v : Int) (w : World) (hn : l.length = n) (hl : n ≤ 2000) (hr : Rd ofE 4 w w.heap.size A l) (hok : ∀ z ∈ l, 1 ≤ z.n ∧ z.n ≤ 8) (hd : 0 ≤ d ∧ d ≤ 1000000) (hv : ptsL p d l = v) :
    Calls Tryz.prog 46 #[.slice A n c, .string p, .int .i64 d] w fun e w' => e = .returned (.int .i64 v) ∧ Below w.heap.size w w' := by
  subst hn
  exact points_p A c l p d v w hl hr hok hd hv
def bl (l : List Bool) : List Value := l.map Value.bool
theorem bl_fn (n : Nat) : fn n (fun _ => Value.bool false) = bl (List.replicate n false) := by
  rw [← fn_rep]
  simp [bl]
theorem bl_at (pre rest : List Bool) (b : Bool) : (bl (pre ++ b :: rest))[pre.length]? = some (.bool b) := by simp [bl]
theorem bl_set (pre rest : List Bool) (b : Bool) : (bl (pre ++ b :: rest)).set pre.length (.bool true) = bl ((pre ++ [true]) ++ rest) := by
  unfold bl
  rw [List.map_append, List.map_cons]
  rw [List.set_append_right _ _ (by simp)]
  simp
def SusR (w : World) (l : List Of) (p : ByteArray) (ms : List Int) (G : Nat) (i : Value) (wr : World) : Prop := ∃ k : Nat, k ≤ l.length ∧ i = .int .i64 k ∧ Blk wr G 4 (bl (marksO l p ms k)) ∧ Below w.heap.size w wr
def SusI (w : World) (ms : List Int) (d : Int) (res : List Bool) (G g : Nat) (cv i : Value) (wr : World) : Prop := ∃ (mt : List Int) (pre rest : List Bool) (cc : Int), i = .int .i64 pre.length ∧ cv = .int .i64 cc ∧ (0 ≤ cc ∧ cc ≤ 20000) ∧ pre.length + mt.length = ms.length ∧ mt.length = rest.length ∧ ms.drop pre.length = mt ∧ res = pre ++ markR d mt rest cc ∧ Blk wr G 4 (bl (pre ++ rest)) ∧ wr.cell? ⟨g, 2, none⟩ = some (.int .i64 d) ∧ g < wr.heap.size ∧ Below w.heap.size w wr
theorem pick_snoc : ∀ (a : List Int) (b : List Bool) (x : Int) (t : Bool), a.length = b.length → pick (a ++ [x]) (b ++ [t]) = pick a b ++ if t then [x] else []
  | [], [], x, t, _ => by cases t <;> rfl
  | [], _ :: _, _, _, h => by simp at h
  | _ :: _, [], _, _, h => by simp at h
  | y :: a, u :: b, x, t, h => by
    have ih := pick_snoc a b x t (by simpa using h)
    cases u <;> simp [pick, ih]
theorem pick_take {ms : List Int} {mk : List Bool} {k : Nat} {x : Int} {t : Bool} (hx : ms[k]? = some x) (ht : mk[k]? = some t) : pick (ms.take (k + 1)) (mk.take (k + 1)) = pick (ms.take k) (mk.take k) ++ if t then [x] else [] := by
  rw [List.take_add_one, List.take_add_one, hx, ht]
  have h1 := (List.getElem?_eq_some_iff.1 hx).1
  have h2 := (List.getElem?_eq_some_iff.1 ht).1
  exact pick_snoc _ _ x t (by rw [List.length_take, List.length_take]; omega)
theorem Tryz.infoI64 : (Tryz.prog.info? 2).map (fun i => (i.zero, i.size, i.bytes)) = some (some (.int .i64 0), 1, 8) := by kernel_rfl
theorem Tryz.i64Elem : ElemOf Tryz.prog inE 1 8 59 2 := .mk' Tryz.infoI64 rfl Tryz.underlying59 (by decide) inE_len (fun x u hu => by simp [inE] at hu; subst hu; rfl)
def OutR (w : World) (ms : List Int) (mk : List Bool) (G : Nat) (o i : Value) (wr : World) : Prop := ∃ (k : Nat) (L : List Int) (A : Option Addr) (c : Nat), k ≤ ms.length ∧ i = .int .i64 k ∧ L = pick (ms.take k) (mk.take k) ∧ o = .slice A L.length c ∧ OwnL inE 1 2 (G + 1) wr (.slice A L.length c) L ∧ Blk wr G 4 (bl mk) ∧ Below w.heap.size w wr
theorem bl_get (mk : List Bool) (k : Nat) : (bl mk)[k]? = mk[k]?.map Value.bool := by simp [bl]
theorem pick_len : ∀ (a : List Int) (b : List Bool), (pick a b).length ≤ a.length
  | [], b => by unfold pick; simp
  | _ :: _, [] => by unfold pick; simp
  | x :: a, t :: b => by
    have := pick_len a b
    unfold pick
    split <;> simp <;> omega
theorem susp_p (A M : Option Addr) (c mc : Nat) (l : List Of) (p : ByteArray) (ms : List Int) (w : World) (hl : l.length ≤ 2000) (hlc : l.length ≤ c) (hml : ms.length ≤ 400) (hr : Rd ofE 4 w w.heap.size A l) (hm : Rd inE 1 w w.heap.size M ms) (hsz : ∀ z ∈ l, z.p.size ≤ 9223372036854775807) :
    Calls Tryz.prog 25 #[.slice A l.length c, .string p, .slice M ms.length mc] w fun e w' => ∃ A2 c2, e = .returned (.tuple #[.slice A2 (suspS l p ms).1.length c2, .int .i64 (suspS l p ms).2]) ∧ Rd inE 1 w' w'.heap.size A2 (suspS l p ms).1 ∧ Below w.heap.size w w' := by
  have HR := Lib.hid hr
  have HMS := Lib.hid hm
  have HSZ := Lib.hid hsz
  by_cases h0 : ckO l = 0
  · have H0 := Lib.hid h0
    by_cases h1 : ckM ms = 0
    · have H1 := Lib.hid h1
      obtain ⟨out, hout⟩ : ∃ out, out = pick ms (marksO l p ms l.length) := ⟨_, rfl⟩
      have hs : suspS l p ms = (out, 0) := by rw [hout]; unfold suspS; rw [if_neg (by rw [h0]; simp), if_neg (by rw [h1]; simp)]
      rw [hs]
      have HOUT := Lib.hid hout
      have HOK := Lib.hid (ck_pair h0).1
      clear hr hm hsz h0 h1 hs hout
      go_enter Tryz.func25, Tryz.ntmps25
      go_wp2_with (first
        | (go_at_call 27; refine (ck_p A c l 0 _ hl HR.out HSZ.out H0.out).mono ?_; rintro e w1 ⟨rfl, hb1⟩; have HB1 := Lib.hid hb1; clear hb1)
        | (go_at_call 47; refine (ckM_p M mc ms 0 _ hml (HMS.out.to HB1.out) H1.out).mono ?_; rintro e w2 ⟨rfl, hb2⟩; have HB2 := Lib.hid (cur_step1 HB1.out hb2); clear hb2)
        | (refine wpList_makeN _ rfl _ _ _ rfl 4 (.bool false) 1 (by kernel_rfl) (by kernel_rfl) (by kernel_rfl) .i64 .i64 ms.length (by rfl) (by rfl) (by omega) (by unfold maxLen; omega) ?_; intro w3 hq hb3; have HB3 := Lib.hid (cur_step1 HB2.out hb3); have HQ := Lib.hid hq; clear hq hb3))
      obtain ⟨G, hG⟩ : ∃ G, G = w2.heap.size := ⟨_, rfl⟩
      have hGw : w.heap.size ≤ G := by rw [hG]; exact HB2.out.size
      rw [← hG, bl_fn] at HQ
      rw [← hG]
      clear hG
      go_loopw [35] (SusR w l p ms G) (fun i _ => l.length - (intOf i).toNat)
      case atStart => exact ⟨0, by omega, rfl, HQ.out, HB3.out⟩
      case round =>
        clear HQ HB3
        obtain ⟨k, hk, rfl, hq, hB⟩ := hrel
        have HQ := Lib.hid hq
        have HB := Lib.hid hB
        clear hq hB
        by_cases hlt : k < l.length
        · obtain ⟨z, hz⟩ : ∃ z, l[k]? = some z := ⟨_, List.getElem?_eq_getElem hlt⟩
          obtain ⟨b, off, rfl, hbb, hcl⟩ := HR.out.at_ HB.out hz
          obtain ⟨c0, c1, c2, c3⟩ := of_cells hcl
          have es := seq_to z.p p
          have HST := Lib.hid (marksO_step p ms hz)
          have HZO := Lib.hid (HOK.out z (List.mem_of_getElem? hz))
          have HZ := Lib.hid hz
          have hGl := HQ.out.lt
          clear hcl hz
          cases hs : seq z.p p
          · rw [hs] at es
            have HE := Lib.hid (show marksO l p ms (k + 1) = marksO l p ms k by rw [HST.out, hs]; rfl)
            clear hs
            go_wp2_with fail
            go_roundw
            case rel => exact ⟨k + 1, hlt, by simp, by rw [HE.out]; exact HQ.out.to (cur_new _ _), cur_step1 HB.out (cur_new _ _)⟩
            case measure => simp [intOf]; omega
          · rw [hs] at es
            have HE := Lib.hid (show marksO l p ms (k + 1) = markR z.d ms (marksO l p ms k) (costF p (l.take k) z) by rw [HST.out, hs]; rfl)
            obtain ⟨m, hmm⟩ : ∃ m, ptsL p z.d (l.take k) = m := ⟨_, rfl⟩
            have HM := Lib.hid hmm
            have HOKk := Lib.hid (show ∀ y ∈ l.take k, 1 ≤ y.n ∧ y.n ≤ 8 from fun y hy => (HOK.out y (List.mem_of_mem_take hy)).2.2.2)
            have hday : 0 ≤ z.d ∧ z.d ≤ 1000000 := by have h := HZO.out.2.2.1; unfold isDayB at h; simpa using h
            have hnn : 1 ≤ z.n ∧ z.n ≤ 8 := HZO.out.2.2.2
            have HLK := Lib.hid (show (l.take k).length = k by rw [List.length_take]; omega)
            have hm0 : 0 ≤ m ∧ m ≤ 16000 := by
              have h := pts_rng (p := p) (d := z.d) HOKk.out
              rw [hmm, HLK.out] at h
              omega
            have hkc : (k : Int) ≤ (c : Int) := by omega
            have hkz : (0 : Int) ≤ (k : Int) := by omega
            clear hs hmm
            go_wp2_with fail
            obtain ⟨g, hg⟩ : ∃ g, g = wr.heap.size := ⟨_, rfl⟩
            have hbx := cur_new wr (.cells #[.int .i64 z.id, .string z.p, .int .i64 z.d, .int .i64 z.n] 32)
            have hbk := Blk.new wr 32 [.int .i64 z.id, .string z.p, .int .i64 z.d, .int .i64 z.n]
            generalize wr.alloc (Obj.cells #[.int .i64 z.id, .string z.p, .int .i64 z.d, .int .i64 z.n] 32) = w4 at hbx hbk ⊢
            rw [← hg] at hbk ⊢
            have HBK := Lib.hid hbk
            have HQ4 := Lib.hid (HQ.out.to hbx)
            have HB4 := Lib.hid (cur_step1 HB.out hbx)
            have hgG : g ≠ G := by omega
            have hgw : w.heap.size ≤ g := by rw [hg]; exact HB.out.size
            clear hbx hbk c0 c1 c2 c3 hg HQ HB
            obtain ⟨CT, hCT⟩ : ∃ CT : List (Nat × Nat × Value), CT = [(g, 2, .int .i64 z.d)] := ⟨_, rfl⟩
            have K3 : Keep w4 w4 CT := by rw [hCT]; exact ⟨Below.refl _ _, fun c hc => by simp at hc; subst hc; exact ⟨HBK.out.lt, HBK.out.cell 2⟩⟩
            have k2 : ∀ s : Wd w4 CT, s.w.cell? ⟨g, 2, none⟩ = some (.int .i64 z.d) := fun s => s.h.get (by simp [hCT])
            have hex : ∀ s : Wd w4 CT, ∃ s' : Wd w4 CT, s.w = s'.w := fun s => ⟨s, rfl⟩
            haveI hne : Nonempty (Wd w4 CT) := ⟨⟨_, K3⟩⟩
            clear hCT
            refine wp_region_wd w4 CT (by kernel_rfl) (by kernel_rfl) K3.drew ?_
            repeat (go_big_quiet_step ((go_at_call 46; refine (points_p' _ c k (l.take k) p z.d m _ HLK.out (by omega) ((HR.out.to (cur_step1 HB4.out (Wd.h _).1)).pre k) HOKk.out hday HM.out).mono ?_; rintro e w5 ⟨rfl, hb5⟩; exact ⟨rfl, ⟨w5, (Wd.h _).to hb5⟩, rfl⟩)))
            refine wpQuiet_nil ?_
            rintro wm ⟨s4, hs4⟩
            have hbm : Below w4.heap.size w4 wm := by rw [hs4]; exact s4.h.1
            clear hs4 s4 k2 hex hne K3
            (try simp only [])
            have HQ5 := Lib.hid (HQ4.out.to hbm)
            have hbk5 := HBK.out.to hbm
            have HBK5 := Lib.hid hbk5
            have HB5 := Lib.hid (cur_step1 HB4.out hbm)
            have e2 : wm.cell? ⟨g, 2, none⟩ = some (.int .i64 z.d) := hbk5.cell 2
            have e3 : wm.cell? ⟨g, 3, none⟩ = some (.int .i64 z.n) := hbk5.cell 3
            have hgl := hbk5.lt
            have t1 : (m + z.n).tdiv 4 = (m + z.n) / 4 := Int.tdiv_eq_ediv_of_nonneg (by omega)
            have t2 : m.tdiv 4 = m / 4 := Int.tdiv_eq_ediv_of_nonneg (by omega)
            clear hbm hbk5 HQ4 HB4 HBK
            go_wp2_with fail
            go_loopw [14, 62] (SusI w ms z.d (markR z.d ms (marksO l p ms k) (costF p (l.take k) z)) G g) (fun _ i _ => ms.length - (intOf i).toNat)
            case atStart =>
              have hcf : costF p (l.take k) z = 2 * ((m + z.n) / 4 - m / 4) := by unfold costF; rw [HM.out]
              exact ⟨ms, [], marksO l p ms k, costF p (l.take k) z, rfl, by rw [hcf], by rw [hcf]; omega, by simp, (marksO_len l p ms k).symm, rfl, rfl, HQ5.out, e2, hgl, HB5.out⟩
            case round =>
              clear HQ5 HBK5 HB5 e2 e3 hgl t1 t2
              obtain ⟨mt, pre, rest, cc, rfl, rfl, hcc, hlen, hlen2, hdr, hres, hq, hc2, hgl3, hB⟩ := hrel
              have HRES := Lib.hid hres
              have HDR := Lib.hid hdr
              have HQ := Lib.hid hq
              have HB := Lib.hid hB
              have hGl3 := hq.lt
              clear hres hdr hq hB
              cases mt with
              | nil =>
                cases rest with
                | cons _ _ => simp at hlen2
                | nil =>
                  have HE2 := Lib.hid (show bl (marksO l p ms (k + 1)) = bl (pre ++ []) by rw [HE.out, HRES.out]; simp [markR])
                  have hpl : pre.length = ms.length := by simpa using hlen
                  have hnl : ¬ pre.length < ms.length := by omega
                  clear hpl
                  go_wp2_with fail
                  go_roundw
                  case rel => exact ⟨k + 1, hlt, by simp, by rw [HE2.out]; exact HQ.out, HB.out⟩
                  case measure => simp [intOf]; omega
              | cons x mt' =>
                cases rest with
                | nil => simp at hlen2
                | cons bb rest' =>
                  have hpl : pre.length < ms.length := by simp at hlen; omega
                  have hxm : ms[pre.length]? = some x := by
                    have h : (ms.drop pre.length)[0]? = some x := by rw [HDR.out]; rfl
                    rw [List.getElem?_drop] at h
                    simpa using h
                  obtain ⟨mb, moff, rfl, hmb, hmcl⟩ := HMS.out.at_ HB.out hxm
                  have cm := in_cell hmcl
                  have cb : wr.cell? ⟨G, pre.length, none⟩ = some (.bool bb) := (HQ.out.cell pre.length).trans (bl_at pre rest' bb)
                  have fb := HQ.out.frozen pre.length
                  have hdr2 : ms.drop (pre ++ [bb]).length = mt' := by
                    rw [List.length_append, ← List.drop_drop, HDR.out]; rfl
                  have HD2 := Lib.hid hdr2
                  have HXM := Lib.hid hxm
                  have hlenp : pre.length + (mt'.length + 1) = ms.length := by simpa using hlen
                  have hlenq : mt'.length = rest'.length := by simpa using hlen2
                  clear hmcl hdr2 hxm hlen hlen2
                  have skip : (decide (0 < cc) && (decide (z.d < x) && !bb)) = false → SusI w ms z.d (markR z.d ms (marksO l p ms k) (costF p (l.take k) z)) G g (.int .i64 cc) (.int .i64 (pre.length + 1)) wr := by
                    intro h
                    refine ⟨mt', pre ++ [bb], rest', cc, by simp, rfl, hcc, by simp; omega, hlenq, HD2.out, ?_, ?_, hc2, hgl3, HB.out⟩
                    · rw [HRES.out]; conv => lhs; unfold markR
                      rw [h]; simp
                    · have h2 := HQ.out
                      simpa using h2
                  have SKIP := Lib.hid skip
                  clear skip
                  cases h1 : decide (0 < cc)
                  · have HS := Lib.hid (SKIP.out (by rw [h1]; rfl))
                    go_wp2_with fail
                    go_roundw
                    case rel => exact HS.out
                    case measure => simp [intOf]; omega
                  · cases h2 : decide (z.d < x)
                    · have HS := Lib.hid (SKIP.out (by rw [h1, h2]; rfl))
                      go_wp2_with fail
                      go_roundw
                      case rel => exact HS.out
                      case measure => simp [intOf]; omega
                    · cases bb
                      · have hset := HQ.out.set pre.length (.bool true)
                        rw [bl_set] at hset
                        have hc3 : (wr.setCell ⟨G, pre.length, none⟩ (.bool true)).cell? ⟨g, 2, none⟩ = some (.int .i64 z.d) := (World.cell?_of_block (a := ⟨g, 2, none⟩) (heap_setCell_other wr ⟨G, pre.length, none⟩ g (.bool true) hgG)).trans hc2
                        have HS := Lib.hid (show SusI w ms z.d (markR z.d ms (marksO l p ms k) (costF p (l.take k) z)) G g (.int .i64 (cc - 1)) (.int .i64 (pre.length + 1)) (wr.setCell ⟨G, pre.length, none⟩ (.bool true)) by
                          refine ⟨mt', pre ++ [true], rest', cc - 1, by simp, rfl, by have := of_decide_eq_true h1; omega, by simp; omega, hlenq, ?_, ?_, hset, hc3, by simpa using hgl3, below_set HB.out hGw _ _⟩
                          · have h := HD2.out; simpa using h
                          · rw [HRES.out]; conv => lhs; unfold markR
                            rw [h1, h2]; simp)
                        clear hset hc3
                        go_wp2_with fail
                        go_roundw
                        case rel => exact HS.out
                        case measure => simp [intOf]; omega
                      · have HS := Lib.hid (SKIP.out (by rw [h1, h2]; rfl))
                        go_wp2_with fail
                        go_roundw
                        case rel => exact HS.out
                        case measure => simp [intOf]; omega
        · have hke : k = l.length := by omega
          subst hke
          clear hk hlt
          go_wp2_with fail
          obtain ⟨mk, hmk⟩ : ∃ mk, mk = marksO l p ms l.length := ⟨_, rfl⟩
          have hmkl : mk.length = ms.length := by rw [hmk, marksO_len]
          rw [← hmk] at HQ HOUT
          have HQ0 := Lib.hid HQ.out
          have HB0 := Lib.hid HB.out
          clear hmk HQ HB
          go_loopw [17, 91] (OutR w ms mk G) (fun _ i _ => ms.length - (intOf i).toNat)
          case atStart => exact ⟨0, [], none, 0, by omega, rfl, by simp [pick], rfl, World.ownsRow_nil _ _ _ _, HQ0.out, HB0.out⟩
          case round =>
            clear HQ0 HB0
            obtain ⟨k, L, A2, c2, hk, rfl, hL, rfl, hown, hq, hB⟩ := hrel
            have HL := Lib.hid hL
            have HO := Lib.hid hown
            have HQ := Lib.hid hq
            have HB := Lib.hid hB
            have hGl := hq.lt
            have hLl : L.length ≤ 400 := by
              have := pick_len (ms.take k) (mk.take k)
              rw [hL, List.length_take] at *
              omega
            clear hL hown hq hB
            by_cases hlt : k < ms.length
            · obtain ⟨x, hx⟩ : ∃ x, ms[k]? = some x := ⟨_, List.getElem?_eq_getElem hlt⟩
              obtain ⟨t, ht⟩ : ∃ t, mk[k]? = some t := ⟨_, List.getElem?_eq_getElem (by omega)⟩
              obtain ⟨mb, moff, rfl, hmb, hmcl⟩ := HMS.out.at_ HB.out hx
              have cm := in_cell hmcl
              have ct : wr.cell? ⟨G, k, none⟩ = some (.bool t) := (HQ.out.cell k).trans (by rw [bl_get, ht]; rfl)
              have HP := Lib.hid (pick_take hx ht)
              clear hmcl hx ht
              cases t
              · have HL2 := Lib.hid (show L = pick (ms.take (k + 1)) (mk.take (k + 1)) by rw [HP.out, HL.out]; simp)
                go_wp2_with fail
                go_roundw
                case rel => exact ⟨k + 1, L, A2, c2, hlt, by simp, HL2.out, rfl, HO.out, HQ.out, HB.out⟩
                case measure => simp [intOf]; omega
              · have HL2 := Lib.hid (show L ++ [x] = pick (ms.take (k + 1)) (mk.take (k + 1)) by rw [HP.out, HL.out]; simp)
                have hsz := HB.out.size
                go_wp2_with (at_builtin; refine wpList_app1 Tryz.i64Elem _ rfl (.tmp 100) (.tmp 102) rfl (G + 1) A2 c2 L rfl ?o1 x wr.heap.size 1 rfl ?o2 ?o3 ?o4 ?o5 ?_)
                case o1 => exact own_below HO.out (cur_new _ _) (Nat.le_refl _)
                case o2 =>
                  have h := heap_alloc_new wr (Obj.cells (inE x).toArray 2)
                  simpa [inE] using h
                case o3 => unfold maxLen; omega
                case o4 => omega
                case o5 => first | omega | (simp; omega)
                intro g2 cap w1 ha
                obtain ⟨hb2, ho2⟩ := app1_end HB.out (fun b hb => by have := (own_range HO.out b hb).1; omega) (cur_new _ _) ha
                have hq2 : Blk w1 G 4 (bl mk) := by
                  have hq3 := HQ.out.to (cur_new wr (.cells #[.int .i64 x] 2))
                  unfold Blk
                  rw [ha.grown.block G hq3.lt (fun e => by have := (own_range HO.out G e.symm).1; omega)]
                  exact hq3
                have HO2 := Lib.hid ho2
                have HB2' := Lib.hid hb2
                have HQ2 := Lib.hid hq2
                clear ha ho2 hb2 hq2
                go_wp2_with fail
                go_roundw
                case rel => exact ⟨k + 1, L ++ [x], some ⟨g2, 0, none⟩, cap, hlt, by simp, HL2.out, by simp, HO2.out, HQ2.out, HB2'.out⟩
                case measure => simp [intOf]; omega
            · have hke : k = ms.length := by omega
              have hLo : L = out := by rw [HL.out, hke, HOUT.out, List.take_length, List.take_of_length_le (by omega)]
              obtain ⟨A3, c3, e3, hrd, _⟩ := HO.out.rd inE_len
              have HRD := Lib.hid hrd
              injection e3 with e31 e32 e33
              subst e31
              have HLO := Lib.hid hLo
              clear hrd hLo hke
              go_wp2_with fail
              go_ret2
              refine ⟨A2, ⟨c3, by rw [← HLO.out]; rfl⟩, ?_, HB.out⟩
              rw [← HLO.out]
              exact HRD.out
    · obtain ⟨q, hq⟩ : ∃ q, ckM ms = q := ⟨_, rfl⟩
      have HQ := Lib.hid hq
      have hqn : (q == 0) = false := by rw [← hq]; simpa using h1
      have hs : suspS l p ms = ([], q) := by unfold suspS; rw [if_neg (by rw [h0]; simp), if_pos h1, hq]
      rw [hs]
      clear hr hm hsz h0 h1 hs hq
      go_enter Tryz.func25, Tryz.ntmps25
      go_wp2_with (first
        | (go_at_call 27; refine (ck_p A c l 0 _ hl HR.out HSZ.out H0.out).mono ?_; rintro e w1 ⟨rfl, hb1⟩; have HB1 := Lib.hid hb1; clear hb1)
        | (go_at_call 47; refine (ckM_p M mc ms q _ hml (HMS.out.to HB1.out) HQ.out).mono ?_; rintro e w2 ⟨rfl, hb2⟩; have HB2 := Lib.hid (cur_step1 HB1.out hb2); clear hb2))
      go_ret2
      exact ⟨none, 0, rfl, Rd.nil_, HB2.out⟩
  · obtain ⟨q, hq⟩ : ∃ q, ckO l = q := ⟨_, rfl⟩
    have HQ := Lib.hid hq
    have hqn : (q == 0) = false := by rw [← hq]; simpa using h0
    have hs : suspS l p ms = ([], q) := by unfold suspS; rw [if_pos h0, hq]
    rw [hs]
    clear hr hm hsz h0 hs hq
    go_enter Tryz.func25, Tryz.ntmps25
    go_wp2_with (go_at_call 27; refine (ck_p A c l q _ hl HR.out HSZ.out HQ.out).mono ?_; rintro e w1 ⟨rfl, hb1⟩; have HB1 := Lib.hid hb1; clear hb1)
    go_ret2
    exact ⟨none, 0, rfl, Rd.nil_, HB1.out⟩
end Go.Proofs.YtpninpohligomaaGreatDoor
