/- Plain Lean over any program, and walks of this seat's functions: contracts, each proved once (part 3). -/
import Derived.Test.YtpkdbddhekffgaaGreatDoorZ2
import Derived.ProofKit
import Derived.OpenShut
import Derived.ShutString
import Derived.ChangeOld
import Derived.Below
import Derived.LaidLaws
import Derived.Handed
import Derived.DataReads
import Derived.LaidSub
import Derived.Stop.LaidErr
import Derived.Lib.LaidTab
import Derived.Shelf.Vars
import Derived.SizedLaws
import Derived.Test.YtpkdbddhekffgaaGreatDoorRows
import Derived.Test.YtpkdbddhekffgaaGreatDoorTie
import Derived.Test.YtpkdbddhekffgaaGreatDoorCards
import Derived.SevenTiedAt
set_option maxRecDepth 1000000
set_option synthInstance.maxSize 1000000
set_option synthInstance.maxHeartbeats 10000000
set_option linter.unusedVariables false
set_option linter.unusedSimpArgs false
namespace Go.Proofs.YtpkdbddhekffgaaGreatDoor
open Go.Fl Go.Ab Go.Mac Go.Sha
def contL (b : List UInt8) : Nat := (b.take 7).findIdx fun c => !decide (127 < c)
def valL : List UInt8 → Nat
  | [] => 0
  | c :: l => c.toNat % 128 + 128 * valL l
theorem valL_lt : ∀ l : List UInt8, valL l < 128 ^ l.length
  | [] => by decide
  | c :: l => by
    have := valL_lt l
    rw [List.length_cons, Nat.pow_succ]; unfold valL; omega
def readF (b : List UInt8) : Int × Int × Int :=
  if contL b = 7 then (0, 0, 5) else if contL b = b.length then (0, 0, 3) else
  if (decide (0 < contL b) && decide (b.getD (contL b) 0 = 0)) then (0, 0, 5) else
  if 281474976710656 < valL (b.take (contL b + 1)) then (0, 0, 1) else ((valL (b.take (contL b + 1)) : Int), (contL b : Int) + 1, 0)
theorem contL_le (b : List UInt8) : contL b ≤ 7 ∧ contL b ≤ b.length := by
  have h := List.findIdx_le_length (p := fun c : UInt8 => !decide (127 < c)) (xs := b.take 7)
  rw [List.length_take] at h
  unfold contL; omega
theorem contL_at {b : List UInt8} {k : Nat} (h1 : k ≤ 7) (h2 : k ≤ b.length) (h3 : ∀ j (hj : j < b.length), j < k → decide (127 < b[j]) = true) (h4 : k = 7 ∨ k = b.length ∨ ∃ h : k < b.length, decide (127 < b[k]) = false) : contL b = k := by
  unfold contL
  by_cases e : k < (b.take 7).length
  · rw [List.findIdx_eq e]
    rw [List.length_take] at e
    refine ⟨?_, fun j hj => ?_⟩
    · rcases h4 with h4 | h4 | ⟨h4, h5⟩
      · omega
      · omega
      · simp only [List.getElem_take]; rw [h5]; rfl
    · simp only [List.getElem_take]; rw [h3 j (by omega) hj]; rfl
  · rw [List.length_take] at e
    have : (b.take 7).length = k := by rw [List.length_take]; omega
    rw [← this]
    refine List.findIdx_eq_length.2 fun x hx => ?_
    obtain ⟨j, hj, rfl⟩ := List.getElem_of_mem hx
    simp only [List.getElem_take]
    rw [List.length_take] at hj
    rw [h3 j (by omega) (by omega)]; rfl
theorem valL_step {b : List UInt8} {k j : Nat} (hk : k < b.length) (hj : j ≤ k) (hj2 : j < b.length) : valL ((b.take (k + 1)).drop j) = 128 * valL ((b.take (k + 1)).drop (j + 1)) + b[j].toNat % 128 := by
  have hl : j < (b.take (k + 1)).length := by rw [List.length_take]; omega
  rw [List.drop_eq_getElem_cons hl]
  simp only [valL, List.getElem_take]; omega
theorem getD_u8 {b : List UInt8} {k : Nat} (h : k < b.length) : b.getD k default = b[k] := by rw [List.getD_eq_getElem?_getD, List.getElem?_eq_getElem h]; rfl
theorem valL_small {b : List UInt8} {k j : Nat} (hk : k ≤ 6) : valL ((b.take (k + 1)).drop j) < 562949953421312 := by
  refine Nat.lt_of_lt_of_le (valL_lt _) ?_
  refine Nat.le_trans (Nat.pow_le_pow_right (by decide) (show ((b.take (k + 1)).drop j).length ≤ 7 by simp; omega)) (by decide)
theorem rRead_c (b : List UInt8) : FunA gl Tryz.prog 40 [.v b] (fun r => r = .t3 (.v (readF b).1) (.v (readF b).2.1) (.v (readF b).2.2)) := by
  refine FunA.intro Tryz.func40 rfl (by kernel_rfl) 59 rfl rfl _ rfl fun C hC hG => ?_
  refine .q 7 hG ?_ -- @ macaroonref01.Read s s 0.0 0.1 0.2 s s
  refine .lenLe 0 rfl fun hl0 => ?_
  refine .q 5 hG ?_ -- @ macaroonref01.Read s 1.0 s s s
  refine .loopR (α := Nat) [(0, _)] (fun k R => (5, .v (k : Int)) :: R) (fun k => []) (fun k => k ≤ 7 ∧ k ≤ b.length ∧ ∀ j (hj : j < b.length), j < k → decide (127 < b[j]) = true) (fun k => 7 - k) (0) (.cons rfl (.nil _)) ?_ (.cons rfl (.cons rfl (.nil _))) (rfl) fun k hF => ?_
  · simp
  obtain ⟨h1, h2, h3⟩ := hF
  refine .q 14 hG ?_ -- @ macaroonref01.Read s s s 2.0 2.1 2.2 2.3 2.4 2.5 2.6 2.7 2.8 2.9 2.10
  refine .go 16 rfl (.t rfl) (fun hg19 => .idxD ty5 Tryz.underlying25 (.o rfl (beq_iff_eq.2 hg19)) (.o rfl (beq_iff_eq.2 hg19)) (by first | omega | (simp; omega) | (have := hg19; simp at this; omega)) (by first | omega | (simp; omega) | (have := hg19; simp at this; omega)) rfl) ?_
  refine .q 4 hG ?_ -- @ macaroonref01.Read 2.12 2.13 2.14 s
  refine .cond (.t rfl) (fun hc22 => ?_) (fun hc22 => ?_)
  · refine .q 2 hG ?_ -- @ macaroonref01.Read s s
    have hlt1 : k < b.length := by (simp only [Bool.and_eq_true, decide_eq_true_eq] at hc22; omega)
    have hlt2 : k < 7 := by (simp only [Bool.and_eq_true, decide_eq_true_eq] at hc22; omega)
    have hlt3 : decide (127 < b[k]) = true := (by rw [← getD_u8 hlt1]; simp only [Bool.and_eq_true] at hc22; exact hc22.2)
    refine .q 2 hG ?_ -- @ macaroonref01.Read s 3.0
    refine .ad (by first | omega | (simp; done) | (simp; omega) | (simp at *; omega)) (by first | omega | (simp; done) | (simp; omega) | (simp at *; omega)) ?_ -- @ macaroonref01.Read 3.1
    refine .q 2 hG ?_ -- @ macaroonref01.Read 3.2 s
    refine ⟨k + 1, .cons rfl (.cons rfl (.nil _)), rfl, ?_, by omega⟩
    refine ⟨by omega, by omega, fun j hj hjk => ?_⟩; rcases Nat.lt_or_ge j k with h | h; exact h3 j hj h; (obtain rfl : j = k := by omega); exact hlt3
  · refine .q 3 hG ?_ -- @ macaroonref01.Read s s s
    have hcl : contL b = k := contL_at h1 h2 h3 (by rcases Nat.lt_or_ge k 7 with h | h; rcases Nat.lt_or_ge k b.length with h5 | h5; right; right; refine ⟨h5, ?_⟩; (rw [decide_eq_true (show (k : Int) < (b.length : Int) by omega), decide_eq_true (show (k : Int) < 7 by omega)] at hc22; rw [← getD_u8 h5]; exact hc22); right; left; omega; left; omega)
    refine .q 5 hG ⟨fun hc26 => ?_, fun hc26 => ?_⟩ -- @ macaroonref01.Read s 4.0 4.1 s c26
    · refine .q 7 hG ?_ -- @ macaroonref01.Read s s 5.0 5.1 5.2 s s
      refine ⟨_, .r3 rfl (.tmp rfl) (.tmp rfl) (.tmp rfl), ?_⟩
      have e : readF b = (0, 0, 5) := (by unfold readF; rw [if_pos (by omega)])
      rw [e]
    · refine .q 10 hG ⟨fun hc30 => ?_, fun hc30 => ?_⟩ -- @ macaroonref01.Read s s s s 6.0 6.1 6.2 6.3 s c30
      · refine .q 7 hG ?_ -- @ macaroonref01.Read s s 7.0 7.1 7.2 s s
        refine ⟨_, .r3 rfl (.tmp rfl) (.tmp rfl) (.tmp rfl), ?_⟩
        have e : readF b = (0, 0, 3) := (by unfold readF; rw [if_neg (by omega), if_pos (by omega)])
        rw [e]
      · refine .q 3 hG ?_ -- @ macaroonref01.Read s s s
        have hkl : k < b.length := by omega
        have hgd : b.getD k 0 = b[k] := by rw [List.getD_eq_getElem?_getD, List.getElem?_eq_getElem hkl]; rfl
        refine .q 6 hG ?_ -- @ macaroonref01.Read s 8.0 8.1 8.2 8.3 8.4
        refine .go 33 rfl (.t rfl) (fun hg36 => .idxD ty5 Tryz.underlying25 (.o rfl (beq_iff_eq.2 hg36)) (.o rfl (beq_iff_eq.2 hg36)) (by first | omega | (simp; omega) | (have := hg36; simp at this; omega)) (by first | omega | (simp; omega) | (have := hg36; simp at this; omega)) rfl) ?_
        refine .q 4 hG ?_ -- @ macaroonref01.Read 8.6 8.7 8.8 s
        refine .cond (.t rfl) (fun hc39 => ?_) (fun hc39 => ?_)
        · refine .q 7 hG ?_ -- @ macaroonref01.Read s s 9.0 9.1 9.2 s s
          refine ⟨_, .r3 rfl (.tmp rfl) (.tmp rfl) (.tmp rfl), ?_⟩
          have e : readF b = (0, 0, 5) := (by unfold readF; rw [if_neg (by omega), if_neg (by omega), hcl, if_pos (by simp only [Bool.and_eq_true, decide_eq_true_eq] at hc39 ⊢; exact ⟨by omega, hc39.2⟩)])
          rw [e]
        · refine .q 2 hG ?_ -- @ macaroonref01.Read s s
          have hcz : (decide (0 < contL b) && decide (b.getD (contL b) 0 = 0)) = false := (by rw [hcl, ← hc39]; congr 1; exact decide_eq_decide.2 (by omega))
          refine .q 10 hG ?_ -- @ macaroonref01.Read s 10.0 s s s s 11.0 11.1 s s
          refine .loopR (α := Nat) [(0, _), (5, _)] (fun j R => (6, .v ((valL ((b.take (k + 1)).drop j) : Nat) : Int)) :: (7, .v ((j : Int) - 1)) :: R) (fun j => []) (fun j => j ≤ k + 1) (fun j => j) (k + 1) (.cons rfl (.cons rfl (.nil _))) ?_ (.cons (congrArg (fun q => some (AV.v q)) (by simp [valL])) (.cons (congrArg (fun q => some (AV.v q)) (by omega)) (.cons rfl (.cons rfl (.nil _))))) (rfl) fun j hF => ?_
          · simp
          refine .q 7 hG ⟨fun hc42 => ?_, fun hc42 => ?_⟩ -- @ macaroonref01.Read s s s 12.0 12.1 s c42
          · refine .q 3 hG ?_ -- @ macaroonref01.Read s s s
            have hj0 : 1 ≤ j := by omega
            have hvs := valL_small (b := b) (k := k) (j := j) (by omega)
            refine .q 2 hG ?_ -- @ macaroonref01.Read s 14.0
            refine .p (.mul (.i rfl) (.t rfl) (by first | omega | (simp; done) | (simp; omega) | (simp at *; omega)) (by first | omega | (simp; done) | (simp; omega) | (simp at *; omega)) ?_)
            refine .q 2 hG ?_ -- @ macaroonref01.Read 14.2 14.3
            refine .ix (by first | omega | (simp; done) | (simp; omega) | (simp at *; omega)) (by first | omega | (simp; done) | (simp; omega) | (simp at *; omega)) ?_ -- @ macaroonref01.Read 14.4
            refine .q 1 hG ?_ -- @ macaroonref01.Read 14.5
            refine .p (.convI8 Tryz.underlying5 Tryz.underlying3 (.t rfl) (.p (.rem (.t rfl) (.i rfl) (by first | omega | (simp; done) | (simp; omega) | (simp at *; omega)) (by first | omega | (simp; done) | (simp; omega) | (simp at *; omega)) ?_)))
            refine .ad (by first | omega | (simp; done) | (simp; omega) | (simp at *; omega)) (by first | omega | (simp; done) | (simp; omega) | (simp at *; omega)) ?_ -- @ macaroonref01.Read 14.8
            refine .q 2 hG ?_ -- @ macaroonref01.Read 14.9 s
            have hs : (128 : Int) * ((valL ((b.take (k + 1)).drop j) : Nat) : Int) + ((b[((j : Int) - 1).toNat]'(by omega)).toNat : Int) % 128 = ((valL ((b.take (k + 1)).drop (j - 1)) : Nat) : Int) := (by have h5 := valL_step (b := b) (k := k) (j := j - 1) hkl (by omega) (by omega); rw [show j - 1 + 1 = j by omega] at h5; rw [h5]; simp only [show ((j : Int) - 1).toNat = j - 1 by omega]; omega)
            refine .q 2 hG ?_ -- @ macaroonref01.Read s 13.0
            refine .sb (by first | omega | (simp; done) | (simp; omega) | (simp at *; omega)) (by first | omega | (simp; done) | (simp; omega) | (simp at *; omega)) ?_ -- @ macaroonref01.Read 13.1
            refine .q 2 hG ?_ -- @ macaroonref01.Read 13.2 s
            refine ⟨j - 1, .cons (congrArg (fun q => some (AV.v q)) hs) (.cons (congrArg (fun q => some (AV.v q)) (by omega)) (.cons rfl (.cons rfl (.nil _)))), rfl, ?_, by omega⟩
            omega
          · refine .q 3 hG ?_ -- @ macaroonref01.Read s s s
            obtain rfl : j = 0 := by omega
            rw [List.drop_zero]
            have hvs := valL_small (b := b) (k := k) (j := 0) (by omega)
            rw [List.drop_zero] at hvs
            refine .q 5 hG ⟨fun hc55 => ?_, fun hc55 => ?_⟩ -- @ macaroonref01.Read s 15.0 15.1 s c55
            · refine .q 7 hG ?_ -- @ macaroonref01.Read s s 16.0 16.1 16.2 s s
              refine ⟨_, .r3 rfl (.tmp rfl) (.tmp rfl) (.tmp rfl), ?_⟩
              have e : readF b = (0, 0, 1) := (by unfold readF; rw [if_neg (by omega), if_neg (by omega), hcz, if_neg (by decide), hcl, if_pos (by omega)])
              rw [e]
            · refine .q 5 hG ?_ -- @ macaroonref01.Read s s s 17.0 17.1
              refine .ad (by first | omega | (simp; done) | (simp; omega) | (simp at *; omega)) (by first | omega | (simp; done) | (simp; omega) | (simp at *; omega)) ?_ -- @ macaroonref01.Read 17.2
              refine .q 5 hG ?_ -- @ macaroonref01.Read 17.3 17.4 17.5 s s
              refine ⟨_, .r3 rfl (.tmp rfl) (.tmp rfl) (.tmp rfl), ?_⟩
              have e : readF b = ((valL (b.take (k + 1)) : Int), (k : Int) + 1, 0) := (by unfold readF; rw [if_neg (by omega), if_neg (by omega), hcz, if_neg (by decide), hcl, if_neg (by omega)])
              rw [e]
theorem readF_used (b : List UInt8) : 0 ≤ (readF b).2.1 ∧ (readF b).2.1 ≤ b.length := by
  have h := contL_le b
  unfold readF
  split
  · exact ⟨Int.le_refl _, Int.natCast_nonneg _⟩
  · split
    · exact ⟨Int.le_refl _, Int.natCast_nonneg _⟩
    · split
      · exact ⟨Int.le_refl _, Int.natCast_nonneg _⟩
      · split
        · exact ⟨Int.le_refl _, Int.natCast_nonneg _⟩
        · dsimp only; omega
abbrev Rdr := G_macaroonref06_Reader
abbrev rd (w : Value) : AV := .ln w (Lens.id (α := Rdr))
def RdOk (r : Rdr) : Prop := 0 ≤ r.Used ∧ r.Used ≤ r.B.length ∧ r.B.length ≤ 1000000
def rdFail (r : Rdr) (e : Int) : Rdr := if r.E = 0 then ⟨r.B, r.Used, e⟩ else r
theorem rdFail_B (r : Rdr) (e : Int) : (rdFail r e).B = r.B := by unfold rdFail; split <;> rfl
theorem rdFail_U (r : Rdr) (e : Int) : (rdFail r e).Used = r.Used := by unfold rdFail; split <;> rfl
theorem Fail_rd (w : Value) (r : Rdr) (e : Int) : FunH gl Tryz.prog 32 [rd w, .v e] [.ob w r] (fun x Hs => Hs = [.ob w (rdFail r e)]) := by
  refine FunH.introS Tryz.func32 rfl (by kernel_rfl) 13 rfl rfl _ rfl _ rfl fun C hC hG => ?_
  refine .q 2 hG ?_ -- @ macaroonref06.Reader).Fail s s
  refine .p (.move (.t rfl) (.p (.nilCheckL (.t rfl) (.p (.fldW G_macaroonref06_Reader.l2 fd58_2 rfl (.t rfl) (.p (.ldF (fun x => x.E) ty27 (.t rfl) .z (fun _ => rfl) (.p (.eqlI (.t rfl) (.i rfl) ?_)))))))))
  refine .q 1 hG ?_ -- @ macaroonref06.Reader).Fail s
  refine .condP (.t rfl) (fun hc8 => ?_) (fun hc8 => ?_)
  · refine .q 1 hG ?_ -- @ macaroonref06.Reader).Fail s
    refine .p (.move (.t rfl) (.p (.move (.t rfl) (.p (.nilCheckL (.t rfl) (.p (.fldW G_macaroonref06_Reader.l2 fd58_2 rfl (.t rfl) (.n (.stF (fun y x => { x with E := y }) ty27 (.t rfl) (.t rfl) .z (fun _ _ => rfl) ?_)))))))))
    refine .q 1 hG ?_ -- @ macaroonref06.Reader).Fail s
    refine ⟨_, .r0 rfl , ?_⟩
    have e0 : rdFail r e = ⟨r.B, r.Used, e⟩ := if_pos hc8
    refine ⟨_, .cons .z (.nil), ?_⟩
    rw [e0]
  · refine .q 1 hG ?_ -- @ macaroonref06.Reader).Fail s
    refine ⟨_, .r0 rfl , ?_⟩
    have e0 : rdFail r e = r := if_neg hc8
    refine ⟨_, .cons .z (.nil), ?_⟩
    rw [e0]
def rdNum (r : Rdr) : Int × Rdr :=
  if r.E ≠ 0 then (0, r) else ((readF (r.B.drop r.Used.toNat)).1, ⟨r.B, r.Used + (readF (r.B.drop r.Used.toNat)).2.1, (rdFail r (readF (r.B.drop r.Used.toNat)).2.2).E⟩)
theorem Number_rd (w : Value) (r : Rdr) (h : RdOk r) : FunH gl Tryz.prog 29 [rd w] [.ob w r] (fun x Hs => x = .v (rdNum r).1 ∧ Hs = [.ob w (rdNum r).2]) := by
  obtain ⟨h0, h1, h2⟩ := h
  have hu := readF_used (r.B.drop r.Used.toNat)
  have hdl : (r.B.drop r.Used.toNat).length = r.B.length - r.Used.toNat := List.length_drop
  refine FunH.introS Tryz.func29 rfl (by kernel_rfl) 38 rfl rfl _ rfl _ rfl fun C hC hG => ?_
  refine .q 2 hG ?_ -- @ macaroonref06.Reader).Number s s
  refine .p (.assign (.i rfl) ?_)
  refine .q 4 hG ?_ -- @ macaroonref06.Reader).Number s s s s
  refine .p (.move (.t rfl) (.p (.nilCheckL (.t rfl) (.p (.fldW G_macaroonref06_Reader.l2 fd58_2 rfl (.t rfl) (.p (.ldF (fun x => x.E) ty27 (.t rfl) .z (fun _ => rfl) (.p (.neqI (.t rfl) (.i rfl) ?_)))))))))
  refine .q 1 hG ?_ -- @ macaroonref06.Reader).Number s
  refine .condP (.t rfl) (fun hc10 => ?_) (fun hc10 => ?_)
  · refine .q 2 hG ?_ -- @ macaroonref06.Reader).Number s s
    refine .p (.assign (.i rfl) ?_)
    refine .q 2 hG ?_ -- @ macaroonref06.Reader).Number s s
    refine ⟨_, .r1 rfl (.tmp rfl), ?_⟩
    have e0 : rdNum r = (0, r) := if_pos hc10
    refine ⟨_, .cons .z (.nil), ?_⟩
    rw [e0]; exact ⟨rfl, rfl⟩
  · refine .q 2 hG ?_ -- @ macaroonref06.Reader).Number s s
    refine .draw (by kernel_rfl) 17 [[], [(12, 0)], [(13, 1)], [(14, 2)], [], [(16, 4)], [(17, 5)], [(18, 6)], [(15, 3), (19, 7)], [(20, 8)], [(21, 9)], [(11, 10)], [(11, 10)], [(11, 10)], [(22, 11)], [(23, 12)], [(24, 13)]] rfl (by kernel_rfl) rfl ?_
    refine ⟨_, OpP.move (.t rfl) rfl, ?_⟩
    refine ⟨_, OpP.nilCheckL (.t rfl) rfl, ?_⟩
    refine ⟨_, OpP.fldW G_macaroonref06_Reader.l0 fd58_0 rfl (.t rfl) rfl, ?_⟩
    refine ⟨_, OpP.ldF (fun x => x.B) ty25 (.t rfl) .z (fun _ => rfl) rfl, ?_⟩
    refine ⟨_, OpP.move (.t rfl) rfl, ?_⟩
    refine ⟨_, OpP.nilCheckL (.t rfl) rfl, ?_⟩
    refine ⟨_, OpP.fldW G_macaroonref06_Reader.l1 fd58_1 rfl (.t rfl) rfl, ?_⟩
    refine ⟨_, OpP.ldF (fun x => x.Used) ty3 (.t rfl) .z (fun _ => rfl) rfl, ?_⟩
    refine ⟨_, OpP.slLo ty5 Tryz.underlying25 (.t rfl) (.t rfl) (by first | omega | (simp; done) | (simp; omega) | (simp at *; omega)) (by first | omega | (simp; done) | (simp; omega) | (simp at *; omega)) rfl, ?_⟩
    refine ⟨_, OpP.call1 hG (rRead_c _) (.cons (.t rfl) .nil) rfl, ?_⟩
    refine ⟨_, OpP.move (.t rfl) rfl, ?_⟩
    refine ⟨_, OpP.ext3_0 (.t rfl) rfl, ?_⟩
    refine ⟨_, OpP.ext3_1 (.t rfl) rfl, ?_⟩
    refine ⟨_, OpP.ext3_2 (.t rfl) rfl, ?_⟩
    refine ⟨_, OpP.assign (.t rfl) rfl, ?_⟩
    refine ⟨_, OpP.assign (.t rfl) rfl, ?_⟩
    refine ⟨_, OpP.assign (.t rfl) rfl, ?_⟩
    show wpB _ _ _ _ _ [] ((5, _) :: (4, _) :: (3, _) :: (24, _) :: (23, _) :: (22, _) :: (11, _) :: (21, _) :: (20, _) :: (19, _) :: (18, _) :: (17, _) :: (16, _) :: (15, _) :: (14, _) :: (13, _) :: (12, _) :: _) _
    refine .q 5 hG ?_ -- @ macaroonref06.Reader).Number s s s 4.0 4.1
    refine .km hG (Fail_rd _ _ _) .z (by rintro _ _ rfl; exact ⟨_, rfl⟩) fun r27 B27 hr27 => ?_ -- @ macaroonref06.Reader).Number 4.2
    cases hr27
    refine .q 2 hG ?_ -- @ macaroonref06.Reader).Number s s
    have hfu := rdFail_U r (readF (r.B.drop r.Used.toNat)).2.2
    refine .q 7 hG ?_ -- @ macaroonref06.Reader).Number s 5.0 5.1 5.2 5.3 5.4 5.5
    refine .ad (by first | omega | (simp; done) | (simp; omega) | (simp at *; omega)) (by first | omega | (simp; done) | (simp; omega) | (simp at *; omega)) ?_ -- @ macaroonref06.Reader).Number 5.6
    refine .q 10 hG ?_ -- @ macaroonref06.Reader).Number 5.7 5.8 5.9 s s s 6.0 6.1 s s
    refine ⟨_, .r1 rfl (.tmp rfl), ?_⟩
    have e0 : rdNum r = ((readF (r.B.drop r.Used.toNat)).1, ⟨r.B, r.Used + (readF (r.B.drop r.Used.toNat)).2.1, (rdFail r (readF (r.B.drop r.Used.toNat)).2.2).E⟩) := if_neg hc10
    refine ⟨_, .cons .z (.nil), ?_⟩
    rw [e0]; refine ⟨rfl, ?_⟩; rw [rdFail_B, rdFail_U]
end Go.Proofs.YtpkdbddhekffgaaGreatDoor
set_option maxRecDepth 1000000
set_option linter.unusedVariables false
set_option linter.unusedSimpArgs false
namespace Go.Proofs.YtpkdbddhekffgaaGreatDoor
open Go.Fl Go.Ab Go.Mac Go.Sha
theorem valL_snoc (c : UInt8) : ∀ l : List UInt8, valL (l ++ [c]) = valL l + 128 ^ l.length * (c.toNat % 128)
  | [] => by simp [valL]
  | x :: l => by
    have ih := valL_snoc c l
    rw [List.cons_append]
    simp only [valL, ih, List.length_cons, Nat.pow_succ]
    rw [Nat.mul_add, ← Nat.mul_assoc, Nat.mul_comm 128 (128 ^ l.length)]; omega
def CanL : List UInt8 → Prop
  | [] => False
  | [c] => c.toNat < 128
  | c :: d :: l => 127 < c.toNat ∧ CanL (d :: l)
theorem CanL.val : ∀ {l : List UInt8}, CanL l → l.getLast? ≠ some 0 → 0 < valL l
  | [], h, _ => h.elim
  | [c], h, hn => by
    have h : c.toNat < 128 := h
    have : c.toNat ≠ 0 := fun e => hn (by rw [show c = 0 from UInt8.toNat_inj.1 e]; rfl)
    simp only [valL]; omega
  | c :: d :: l, h, hn => by
    have ih := CanL.val h.2 (by rw [List.getLast?_cons_cons] at hn; exact hn)
    rw [valL]; omega
theorem ofNat_toNat8 (c : UInt8) : UInt8.ofNat c.toNat = c := by apply UInt8.toNat_inj.1; simp
theorem CanL.num : ∀ {l : List UInt8}, CanL l → (l.length = 1 ∨ l.getLast? ≠ some 0) → numL (valL l) = l
  | [], h, _ => h.elim
  | [c], h, _ => by
    have h : c.toNat < 128 := h
    have e : valL [c] = c.toNat := by simp only [valL]; omega
    rw [e, numL_lt h, ofNat_toNat8]
  | c :: d :: l, h, hn => by
    have hn2 : (d :: l).getLast? ≠ some 0 := by
      rcases hn with hn | hn
      · simp at hn
      · rw [List.getLast?_cons_cons] at hn; exact hn
    have hv := CanL.val h.2 hn2
    have ih := CanL.num h.2 (.inr hn2)
    have h1 := h.1
    have h2 := c.toNat_lt
    rw [valL, numL_ge (by omega)]
    have e1 : (c.toNat % 128 + 128 * valL (d :: l)) % 128 + 128 = c.toNat := by omega
    have e2 : (c.toNat % 128 + 128 * valL (d :: l)) / 128 = valL (d :: l) := by omega
    rw [e1, e2, ih, ofNat_toNat8]
theorem u8_lt {c : UInt8} : decide (127 < c) = decide (127 < c.toNat) := decide_eq_decide.2 UInt8.lt_iff_toNat_lt
theorem contL_spec (b : List UInt8) : (∀ i (h : i < b.length), i < contL b → 127 < b[i].toNat) ∧ (∀ h : contL b < b.length, contL b < 7 → b[contL b].toNat < 128) := by
  have hle := contL_le b
  constructor
  · intro i h hi
    unfold contL at hi
    have h2 : i < (b.take 7).length := Nat.lt_of_lt_of_le hi (List.findIdx_le_length)
    have := List.not_of_lt_findIdx hi
    simp only [List.getElem_take] at this
    rw [u8_lt] at this
    simpa using this
  · intro h h7
    have h2 : (b.take 7).findIdx (fun c : UInt8 => !decide (127 < c)) < (b.take 7).length := by
      rw [List.length_take]; show contL b < _; omega
    have := List.findIdx_getElem (w := h2)
    simp only [List.getElem_take] at this
    rw [u8_lt] at this
    have h3 : (!decide (127 < b[contL b].toNat)) = true := this
    simp at h3; omega
theorem CanL.of_take : ∀ (j : Nat) (l : List UInt8) (hj : j < l.length), (∀ i (h : i < l.length), i < j → 127 < l[i].toNat) → l[j].toNat < 128 → CanL (l.take (j + 1))
  | _, [], hj, _, _ => absurd hj (Nat.not_lt_zero _)
  | 0, c :: r, _, _, h => h
  | j + 1, [c], hj, _, _ => absurd hj (by simp)
  | j + 1, c :: d :: r, hj, hi, h => by
    have ih := CanL.of_take j (d :: r) (by simpa using hj) (fun i hl h2 => hi (i + 1) (by simpa using hl) (by omega)) h
    exact ⟨hi 0 (by simp) (by omega), ih⟩
theorem readF_ok {b : List UInt8} {v k : Int} (h : readF b = (v, k, 0)) : 0 ≤ v ∧ v ≤ 281474976710656 ∧ 1 ≤ k ∧ k ≤ b.length ∧ b.take k.toNat = numL v.toNat := by
  have hle := contL_le b
  obtain ⟨hs1, hs2⟩ := contL_spec b
  unfold readF at h
  split at h
  · simp at h
  · rename_i c1
    split at h
    · simp at h
    · rename_i c2
      split at h
      · simp at h
      · rename_i c3
        split at h
        · simp at h
        · rename_i c4
          simp only [Prod.mk.injEq, and_true] at h
          obtain ⟨rfl, rfl⟩ := h
          have hj : contL b < b.length := by omega
          have hcan := CanL.of_take (contL b) b hj hs1 (hs2 hj (by omega))
          have hlen : (b.take (contL b + 1)).length = contL b + 1 := by rw [List.length_take]; omega
          refine ⟨by omega, by omega, by omega, by omega, ?_⟩
          rw [show ((contL b : Int) + 1).toNat = contL b + 1 by omega, Int.toNat_natCast, hcan.num]
          by_cases h0 : contL b = 0
          · left; rw [hlen, h0]
          · right
            intro e
            rw [List.getLast?_eq_getElem?, hlen, Nat.add_sub_cancel, List.getElem?_take_of_lt (by omega), List.getElem?_eq_getElem hj] at e
            apply c3
            rw [decide_eq_true (show 0 < contL b by omega), Bool.true_and, decide_eq_true_eq, List.getD_eq_getElem?_getD, List.getElem?_eq_getElem hj]
            exact Option.some.inj e
theorem shl_or (m : UInt64) (x : UInt8) : (m <<< 8) ||| x.toUInt64 = 256 * m + x.toUInt64 := by
  apply UInt64.toNat_inj.1
  have hx := x.toNat_lt
  have hm := m.toNat_lt
  have h1 : (m <<< 8).toNat = 2 ^ 8 * (m.toNat % 2 ^ 56) := by
    rw [UInt64.toNat_shiftLeft]
    show m.toNat <<< 8 % 2 ^ 64 = _
    rw [Nat.shiftLeft_eq]; omega
  rw [UInt64.toNat_or, h1, UInt8.toNat_toUInt64, ← Nat.two_pow_add_eq_or_of_lt (by omega), UInt64.toNat_add, UInt64.toNat_mul, UInt8.toNat_toUInt64]
  show _ = (256 * m.toNat % 2 ^ 64 + x.toNat) % 2 ^ 64
  omega
abbrev PRd := G_predicate_reader
def prNum (r : PRd) : Int × PRd := if r.e ≠ 0 then (0, r) else ((readF (r.b.drop r.used.toNat)).1, ⟨r.b, r.used + (readF (r.b.drop r.used.toNat)).2.1, (readF (r.b.drop r.used.toNat)).2.2⟩)
def prMask (r : PRd) : UInt64 × PRd := if (r.b.length : Int) - r.used < 8 then (0, ⟨r.b, r.used, 3⟩) else (readN ((r.b.take (r.used + 8).toNat).drop r.used.toNat) 8, ⟨r.b, r.used + 8, r.e⟩)
def fieldF (b : List UInt8) : List UInt8 × Int × Int :=
  if (readF b).2.2 ≠ 0 then ([], 0, (readF b).2.2) else if 1024 < (readF b).1 then ([], 0, 2) else if (b.length : Int) - (readF b).2.1 < (readF b).1 then ([], 0, 3)
  else ((b.take ((readF b).2.1 + (readF b).1).toNat).drop (readF b).2.1.toNat, (readF b).2.1 + (readF b).1, 0)
def prName (r : PRd) : Str × PRd := (⟨(fieldF (r.b.drop r.used.toNat)).1⟩, ⟨r.b, r.used + (fieldF (r.b.drop r.used.toNat)).2.1, (fieldF (r.b.drop r.used.toNat)).2.2⟩)
def PROk (r : PRd) : Prop := 0 ≤ r.used ∧ r.used ≤ r.b.length ∧ r.b.length ≤ 1000000
theorem prNum_ok {r : PRd} (h : PROk r) : PROk (prNum r).2 := by
  unfold prNum
  split
  · exact h
  · have := readF_used (r.b.drop r.used.toNat)
    rw [List.length_drop] at this
    unfold PROk at *
    dsimp only; omega
theorem fieldF_used (b : List UInt8) : 0 ≤ (fieldF b).2.1 ∧ (fieldF b).2.1 ≤ b.length := by
  have h := readF_used b
  unfold fieldF
  split
  · exact ⟨Int.le_refl _, Int.natCast_nonneg _⟩
  · split
    · exact ⟨Int.le_refl _, Int.natCast_nonneg _⟩
    · split
      · exact ⟨Int.le_refl _, Int.natCast_nonneg _⟩
      · rename_i h1 h2 h3
        have h4 : 0 ≤ (readF b).1 := (readF_ok (b := b) (v := (readF b).1) (k := (readF b).2.1) (by rw [← Decidable.not_not.1 h1])).1
        dsimp only; omega
def decB (k : Int) (r : PRd) : Pred × PRd :=
  if k = 1 ∨ k = 2 ∨ k = 3 then (⟨k, (prMask r).1, 0, 0, ⟨[]⟩, 0⟩, (prMask r).2)
  else if k = 4 ∨ k = 5 then (⟨k, 0, (prNum r).1, (prNum (prNum r).2).1, ⟨[]⟩, 0⟩, (prNum (prNum r).2).2)
  else if k = 6 then (⟨k, 0, 0, 0, (prName r).1, 0⟩, (prName r).2)
  else (⟨k, 0, 0, 0, ⟨[]⟩, (prNum r).1⟩, (prNum r).2)
def decF (b : List UInt8) : Pred × Int × Int :=
  if (prNum ⟨b, 0, 0⟩).2.e ≠ 0 then (default, 0, (prNum ⟨b, 0, 0⟩).2.e)
  else if (prNum ⟨b, 0, 0⟩).1 < 1 ∨ 7 < (prNum ⟨b, 0, 0⟩).1 then (default, 0, 6)
  else if (decB (prNum ⟨b, 0, 0⟩).1 (prNum ⟨b, 0, 0⟩).2).2.e ≠ 0 then (default, 0, (decB (prNum ⟨b, 0, 0⟩).1 (prNum ⟨b, 0, 0⟩).2).2.e)
  else if predOk (decB (prNum ⟨b, 0, 0⟩).1 (prNum ⟨b, 0, 0⟩).2).1 = true then ((decB (prNum ⟨b, 0, 0⟩).1 (prNum ⟨b, 0, 0⟩).2).1, (decB (prNum ⟨b, 0, 0⟩).1 (prNum ⟨b, 0, 0⟩).2).2.used, 0)
  else (default, 0, 5)
theorem fieldF_ok {b x : List UInt8} {k : Int} (h : fieldF b = (x, k, 0)) : x.length ≤ 1024 ∧ 0 ≤ k ∧ k ≤ b.length ∧ b.take k.toNat = numL x.length ++ x := by
  unfold fieldF at h
  split at h
  · rename_i c; simp only [Prod.mk.injEq] at h; exact absurd h.2.2 c
  · rename_i c1
    split at h
    · simp at h
    · rename_i c2
      split at h
      · simp at h
      · rename_i c3
        simp only [Prod.mk.injEq, and_true] at h
        obtain ⟨rfl, rfl⟩ := h
        obtain ⟨h1, h2, h3, h4, h5⟩ := readF_ok (b := b) (v := (readF b).1) (k := (readF b).2.1) (by rw [← Decidable.not_not.1 c1])
        have hl : ((b.take ((readF b).2.1 + (readF b).1).toNat).drop (readF b).2.1.toNat).length = (readF b).1.toNat := by rw [List.length_drop, List.length_take]; omega
        refine ⟨by omega, by omega, by omega, ?_⟩
        rw [hl, ← h5]
        have e : b.take (readF b).2.1.toNat = (b.take ((readF b).2.1 + (readF b).1).toNat).take (readF b).2.1.toNat := by rw [List.take_take, Nat.min_eq_left (by omega)]
        rw [e, List.take_append_drop]
end Go.Proofs.YtpkdbddhekffgaaGreatDoor
set_option synthInstance.maxSize 1000000
set_option synthInstance.maxHeartbeats 10000000
set_option linter.unusedVariables false
set_option linter.unusedSimpArgs false
set_option maxRecDepth 1000000
namespace Go.Proofs.YtpkdbddhekffgaaGreatDoor
open Go.Fl Go.Ab Go.Mac Go.Sha
theorem and127_8 (x : UInt8) : (x &&& 127).toNat = x.toNat % 128 := by rw [UInt8.toNat_and]; exact Nat.and_two_pow_sub_one_eq_mod x.toNat 7
theorem grp_int (x : UInt8) (k : Nat) : ((x &&& 127).toNat : Int) * 2 ^ (7 * (k : Int)).toNat = ((x.toNat % 128 * 2 ^ (7 * k) : Nat) : Int) := by
  rw [and127_8, show (7 * (k : Int)).toNat = 7 * k by omega]; push_cast; rfl
theorem grp_bound {x : UInt8} {k : Nat} (hk : k < 7) : 0 ≤ ((x &&& 127).toNat : Int) * 2 ^ (7 * (k : Int)).toNat ∧ ((x &&& 127).toNat : Int) * 2 ^ (7 * (k : Int)).toNat ≤ 9223372036854775807 := by
  rw [grp_int]
  have h1 : 2 ^ (7 * k) ≤ 2 ^ 42 := Nat.pow_le_pow_right (by decide) (by omega)
  have h2 : x.toNat % 128 ≤ 127 := by omega
  have h3 : x.toNat % 128 * 2 ^ (7 * k) ≤ 127 * 2 ^ 42 := Nat.mul_le_mul h2 h1
  constructor
  · omega
  · omega
theorem grp_or {b : List UInt8} {k : Nat} (hl : k < b.length) : (((((valL (b.take k) : Nat) : Int).toNat ||| (((b[k] &&& 127).toNat : Int) * 2 ^ (7 * (k : Int)).toNat).toNat : Nat)) : Int) = ((valL (b.take (k + 1)) : Nat) : Int) := by
  rw [grp_int, Int.toNat_natCast, Int.toNat_natCast, List.take_succ_eq_append_getElem hl, valL_snoc]
  have h1 := valL_lt (b.take k)
  rw [show (b.take k).length = k by rw [List.length_take]; omega] at h1 ⊢
  rw [show (128 : Nat) ^ k = 2 ^ (7 * k) by rw [Nat.pow_mul]] at h1 ⊢
  rw [Nat.or_comm, Nat.mul_comm (b[k].toNat % 128), ← Nat.two_pow_add_eq_or_of_lt h1]
  congr 1; omega
theorem vRead_c (b : List UInt8) : FunA gl Tryz.prog 38 [.v b] (fun r => r = .t3 (.v (readF b).1) (.v (readF b).2.1) (.v (readF b).2.2)) := by
  refine FunA.intro Tryz.func38 rfl (by kernel_rfl) 48 rfl rfl _ rfl fun C hC hG => ?_
  refine .q 6 hG ?_ -- @ varint.Read s s 0.0 0.1 0.2 s
  refine .scope ?_
  refine .q 1 hG ?_ -- @ varint.Read s
  refine .lenLe 0 rfl fun hl0 => ?_
  refine .q 5 hG ?_ -- @ varint.Read s 1.0 1.1 s s
  refine .label ?_
  refine .q 2 hG ?_ -- @ varint.Read s s
  refine .loopR (α := Nat) [(0, _)] (fun k R => (5, .v ((valL (b.take k) : Nat) : Int)) :: (6, .v (k : Int)) :: R) (fun k => []) (fun k => k ≤ 7 ∧ k ≤ b.length ∧ ∀ j (hj : j < b.length), j < k → decide (127 < b[j]) = true) (fun k => 7 - k) (0) (.cons rfl (.nil _)) ?_ (.cons rfl (.cons rfl (.cons rfl (.nil _)))) (rfl) fun k hF => ?_
  · simp
  obtain ⟨h1, h2, h3⟩ := hF
  refine .q 10 hG ⟨fun hc7 => ?_, fun hc7 => ?_⟩ -- @ varint.Read s s s s s 2.0 2.1 2.2 s c7
  · refine .q 7 hG ?_ -- @ varint.Read s s 3.0 3.1 3.2 s s
    refine ⟨_, .r3 rfl (.tmp rfl) (.tmp rfl) (.tmp rfl), ?_⟩
    have e : readF b = (0, 0, 5) := (by have hcl : contL b = k := contL_at h1 h2 h3 (.inl (by omega)); unfold readF; rw [if_pos (by omega)])
    rw [e]
  · refine .q 9 hG ⟨fun hc10 => ?_, fun hc10 => ?_⟩ -- @ varint.Read s s 4.0 4.1 4.2 4.3 4.4 s c10
    · refine .q 7 hG ?_ -- @ varint.Read s s 5.0 5.1 5.2 s s
      refine ⟨_, .r3 rfl (.tmp rfl) (.tmp rfl) (.tmp rfl), ?_⟩
      have e : readF b = (0, 0, 3) := (by have hcl : contL b = k := contL_at h1 h2 h3 (.inr (.inl (by omega))); unfold readF; rw [if_neg (by omega), if_pos (by omega)])
      rw [e]
    · refine .q 2 hG ?_ -- @ varint.Read s s
      have hlt1 : k < b.length := (by omega)
      have hlt2 : k < 7 := (by omega)
      have hgb := grp_bound (x := b[k]) hlt2
      have hvl := valL_lt (b.take k)
      refine .q 4 hG ?_ -- @ varint.Read s 6.0 6.1 6.2
      refine .ix (by first | omega | (simp; done) | (simp; omega) | (simp at *; omega)) (by first | omega | (simp; done) | (simp; omega) | (simp at *; omega)) ?_ -- @ varint.Read 6.3
      simp only [Int.toNat_natCast]
      refine .q 2 hG ?_ -- @ varint.Read 6.4 6.5
      refine .p (.convI8 Tryz.underlying5 Tryz.underlying3 (.t rfl) ?_)
      refine .q 1 hG ?_ -- @ varint.Read 6.7
      refine .p (.mul (.i rfl) (.t rfl) (by first | omega | (simp; done) | (simp; omega) | (simp at *; omega)) (by first | omega | (simp; done) | (simp; omega) | (simp at *; omega)) (.p (.shlI (.t rfl) (.t rfl) (by omega) (by omega) hgb.1 hgb.2 (.p (.orI (.t rfl) (.t rfl) (by omega) hgb.1 ?_)))))
      refine .q 3 hG ?_ -- @ varint.Read 6.11 s s
      rw [grp_or hlt1]
      refine .q 2 hG ?_ -- @ varint.Read s 7.0
      refine .ad (by first | omega | (simp; done) | (simp; omega) | (simp at *; omega)) (by first | omega | (simp; done) | (simp; omega) | (simp at *; omega)) ?_ -- @ varint.Read 7.1
      refine .q 6 hG ?_ -- @ varint.Read 7.2 s s s 8.0 8.1
      refine .sb (by first | omega | (simp; done) | (simp; omega) | (simp at *; omega)) (by first | omega | (simp; done) | (simp; omega) | (simp at *; omega)) ?_ -- @ varint.Read 8.2
      refine .ix (by first | omega | (simp; done) | (simp; omega) | (simp at *; omega)) (by first | omega | (simp; done) | (simp; omega) | (simp at *; omega)) ?_ -- @ varint.Read 8.3
      refine .q 4 hG ⟨fun hc33 => ?_, fun hc33 => ?_⟩ -- @ varint.Read 8.4 8.5 s c33
      · refine .q 3 hG ?_ -- @ varint.Read s s s
        have hx8 : b[k].toNat < 128 := (by have e : ((k : Int) + 1 - 1).toNat = k := (by omega); have h9 := UInt8.lt_iff_toNat_lt.1 hc33; simp only [e] at h9; exact h9)
        have hcl : contL b = k := contL_at h1 h2 h3 (.inr (.inr ⟨hlt1, decide_eq_false fun h => by have h9 := UInt8.lt_iff_toNat_lt.1 h; have h10 : (127 : UInt8).toNat = 127 := rfl; omega⟩))
        refine .q 6 hG ?_ -- @ varint.Read s 9.0 9.1 9.2 9.3 9.4
        refine .go 36 rfl (.t rfl) (fun hg39 => .sub (.o rfl (beq_iff_eq.2 hg39)) (.i rfl) (by first | omega | (simp; omega) | (have := hg39; simp at this; omega)) (by first | omega | (simp; omega) | (have := hg39; simp at this; omega)) rfl) ?_
        refine .go 36 rfl (.t rfl) (fun hg40 => .idx ty5 Tryz.underlying25 (.o rfl (beq_iff_eq.2 hg40)) (.o rfl (beq_iff_eq.2 hg40)) (by first | omega | (simp; omega) | (have := hg40; simp at this; omega)) (by first | omega | (simp; omega) | (have := hg40; simp at this; omega)) rfl) ?_
        refine .q 4 hG ?_ -- @ varint.Read 9.7 9.8 9.9 s
        refine .cond (.t rfl) (fun hc43 => ?_) (fun hc43 => ?_)
        · refine .q 7 hG ?_ -- @ varint.Read s s 10.0 10.1 10.2 s s
          refine ⟨_, .r3 rfl (.tmp rfl) (.tmp rfl) (.tmp rfl), ?_⟩
          have e : readF b = (0, 0, 5) := (by unfold readF; rw [if_neg (by omega), if_neg (by omega), if_pos (by rw [hcl]; simp only [Bool.and_eq_true, decide_eq_true_eq] at hc43 ⊢; refine ⟨by omega, ?_⟩; rw [List.getD_eq_getElem?_getD, List.getElem?_eq_getElem hlt1]; have e2 : ((k : Int) + 1 - 1).toNat = k := (by omega); have h9 := hc43.2; simp only [e2] at h9; exact h9)])
          rw [e]
        · refine .q 3 hG ?_ -- @ varint.Read s s s
          have hcz : ¬ (decide (0 < contL b) && decide (b.getD (contL b) 0 = 0)) = true := (by rw [hcl]; intro h9; simp only [Bool.and_eq_true, decide_eq_true_eq] at h9; rw [List.getD_eq_getElem?_getD, List.getElem?_eq_getElem hlt1] at h9; have e2 : ((k : Int) + 1 - 1).toNat = k := (by omega); rw [decide_eq_true (show (k : Int) + 1 > 1 by omega), Bool.true_and, decide_eq_false_iff_not] at hc43; simp only [e2] at hc43; exact hc43 h9.2)
          refine .q 5 hG ⟨fun hc45 => ?_, fun hc45 => ?_⟩ -- @ varint.Read s 11.0 11.1 s c45
          · refine .q 7 hG ?_ -- @ varint.Read s s 12.0 12.1 12.2 s s
            refine ⟨_, .r3 rfl (.tmp rfl) (.tmp rfl) (.tmp rfl), ?_⟩
            have e : readF b = (0, 0, 1) := (by unfold readF; rw [if_neg (by omega), if_neg (by omega), if_neg hcz, hcl, if_pos (by omega)])
            rw [e]
          · refine .q 10 hG ?_ -- @ varint.Read s s s 13.0 13.1 13.2 13.3 13.4 s s
            refine ⟨_, .r3 rfl (.tmp rfl) (.tmp rfl) (.tmp rfl), ?_⟩
            have e : readF b = ((valL (b.take (k + 1)) : Int), (k : Int) + 1, 0) := (by unfold readF; rw [if_neg (by omega), if_neg (by omega), if_neg hcz, hcl, if_neg (by omega)])
            rw [e]
      · refine .q 1 hG ?_ -- @ varint.Read s
        refine ⟨k + 1, .cons rfl (.cons rfl (.cons rfl (.nil _))), rfl, ?_, by omega⟩
        refine ⟨by omega, by omega, fun j hj hjk => ?_⟩; rcases Nat.lt_or_ge j k with h | h; exact h3 j hj h; (obtain rfl : j = k := by omega); exact decide_eq_true (UInt8.lt_iff_toNat_lt.2 (by have e2 : ((j : Int) + 1 - 1).toNat = j := (by omega); have h8 := hc33; simp only [e2] at h8; have h9 : ¬ b[j].toNat < 128 := fun h => h8 (UInt8.lt_iff_toNat_lt.2 h); show 127 < b[j].toNat; omega))
theorem fRead_c (b : List UInt8) (hb : b.length ≤ 1000000) : FunA gl Tryz.prog 39 [.v b] (fun r => r = .t3 (.v (fieldF b).1) (.v (fieldF b).2.1) (.v (fieldF b).2.2)) := by
  have hu := readF_used b
  refine FunA.intro Tryz.func39 rfl (by kernel_rfl) 38 rfl rfl _ rfl fun C hC hG => ?_
  refine .q 9 hG ?_ -- @ field.Read s s 0.0 0.1 0.2 s s s 1.0
  refine .k hG (vRead_c _) ?_ -- @ field.Read 1.1
  refine .q 17 hG ⟨fun hc14 => ?_, fun hc14 => ?_⟩ -- @ field.Read 1.2 1.3 1.4 1.5 1.6 1.7 1.8 s s s s s 2.0 2.1 2.2 s c14
  · refine .q 8 hG ?_ -- @ field.Read s s 3.0 3.1 3.2 3.3 s s
    refine ⟨_, .r3 rfl (.tmp rfl) (.tmp rfl) (.tmp rfl), ?_⟩
    have e : fieldF b = ([], 0, (readF b).2.2) := if_pos hc14
    rw [e]
  · refine .q 7 hG ⟨fun hc18 => ?_, fun hc18 => ?_⟩ -- @ field.Read s s 4.0 4.1 4.2 s c18
    · refine .q 7 hG ?_ -- @ field.Read s s 5.0 5.1 5.2 s s
      refine ⟨_, .r3 rfl (.tmp rfl) (.tmp rfl) (.tmp rfl), ?_⟩
      have e : fieldF b = ([], 0, 2) := (by unfold fieldF; rw [if_neg hc14, if_pos hc18])
      rw [e]
    · refine .q 1 hG ?_ -- @ field.Read s
      have hn0 : 0 ≤ (readF b).1 := (readF_ok (b := b) (v := (readF b).1) (k := (readF b).2.1) (by rw [← Decidable.not_not.1 hc14])).1
      refine .q 5 hG ?_ -- @ field.Read s 6.0 6.1 6.2 6.3
      refine .sb (by first | omega | (simp; done) | (simp; omega) | (simp at *; omega)) (by first | omega | (simp; done) | (simp; omega) | (simp at *; omega)) ?_ -- @ field.Read 6.4
      refine .q 4 hG ⟨fun hc21 => ?_, fun hc21 => ?_⟩ -- @ field.Read 6.5 6.6 s c21
      · refine .q 7 hG ?_ -- @ field.Read s s 7.0 7.1 7.2 s s
        refine ⟨_, .r3 rfl (.tmp rfl) (.tmp rfl) (.tmp rfl), ?_⟩
        have e : fieldF b = ([], 0, 3) := (by unfold fieldF; rw [if_neg hc14, if_neg hc18, if_pos hc21])
        rw [e]
      · refine .q 7 hG ?_ -- @ field.Read s s s 8.0 8.1 8.2 8.3
        refine .ad (by first | omega | (simp; done) | (simp; omega) | (simp at *; omega)) (by first | omega | (simp; done) | (simp; omega) | (simp at *; omega)) (.p (.slLH ty5 Tryz.underlying25 (.t rfl) (.t rfl) (.t rfl) (by first | omega | (simp; done) | (simp; omega) | (simp at *; omega)) (by first | omega | (simp; done) | (simp; omega) | (simp at *; omega)) (by first | omega | (simp; done) | (simp; omega) | (simp at *; omega)) ?_)) -- @ field.Read 8.4
        refine .k hG ((sliceClone_own _ (by first | omega | (simp; done) | (simp; omega) | (simp at *; omega))).frzA) ?_ -- @ field.Read 8.6
        refine .q 2 hG ?_ -- @ field.Read 8.7 8.8
        refine .ad (by first | omega | (simp; done) | (simp; omega) | (simp at *; omega)) (by first | omega | (simp; done) | (simp; omega) | (simp at *; omega)) ?_ -- @ field.Read 8.9
        refine .q 5 hG ?_ -- @ field.Read 8.10 8.11 8.12 s s
        refine ⟨_, .r3 rfl (.tmp rfl) (.tmp rfl) (.tmp rfl), ?_⟩
        have e : fieldF b = ((b.take ((readF b).2.1 + (readF b).1).toNat).drop (readF b).2.1.toNat, (readF b).2.1 + (readF b).1, 0) := (by unfold fieldF; rw [if_neg hc14, if_neg hc18, if_neg hc21])
        rw [e]
abbrev pr (w : Value) : AV := .ln w (Lens.id (α := PRd))
theorem prNum_c (w : Value) (r : PRd) (h : PROk r) : FunH gl Tryz.prog 26 [pr w] [.ob w r] (fun x Hs => x = .v (prNum r).1 ∧ Hs = [.ob w (prNum r).2]) := by
  obtain ⟨h0, h1, h2⟩ := h
  have hu := readF_used (r.b.drop r.used.toNat)
  have hdl : (r.b.drop r.used.toNat).length = r.b.length - r.used.toNat := List.length_drop
  refine FunH.introS Tryz.func26 rfl (by kernel_rfl) 39 rfl rfl _ rfl _ rfl fun C hC hG => ?_
  refine .q 14 hG ⟨fun hc10 => ?_, fun hc10 => ?_⟩ -- @ predicate.reader).number s s 0.0 s s s s 1.0 1.1 1.2 1.3 1.4 s c10
  · refine .q 5 hG ?_ -- @ predicate.reader).number s s 2.0 s s
    refine ⟨_, .r1 rfl (.tmp rfl), ?_⟩
    have e0 : prNum r = (0, r) := if_pos hc10
    refine ⟨_, .cons .z (.nil), ?_⟩
    rw [e0]; exact ⟨rfl, rfl⟩
  · refine .q 2 hG ?_ -- @ predicate.reader).number s s
    refine .draw (by kernel_rfl) 17 [[], [(12, 0)], [(13, 1)], [(14, 2)], [], [(16, 4)], [(17, 5)], [(18, 6)], [(15, 3), (19, 7)], [(20, 8)], [(21, 9)], [(11, 10)], [(11, 10)], [(11, 10)], [(22, 11)], [(23, 12)], [(24, 13)]] rfl (by kernel_rfl) rfl ?_
    refine ⟨_, OpP.move (.t rfl) rfl, ?_⟩
    refine ⟨_, OpP.nilCheckL (.t rfl) rfl, ?_⟩
    refine ⟨_, OpP.fldW G_predicate_reader.l0 fd54_0 rfl (.t rfl) rfl, ?_⟩
    refine ⟨_, OpP.ldF (fun x => x.b) ty25 (.t rfl) .z (fun _ => rfl) rfl, ?_⟩
    refine ⟨_, OpP.move (.t rfl) rfl, ?_⟩
    refine ⟨_, OpP.nilCheckL (.t rfl) rfl, ?_⟩
    refine ⟨_, OpP.fldW G_predicate_reader.l1 fd54_1 rfl (.t rfl) rfl, ?_⟩
    refine ⟨_, OpP.ldF (fun x => x.used) ty3 (.t rfl) .z (fun _ => rfl) rfl, ?_⟩
    refine ⟨_, OpP.slLo ty5 Tryz.underlying25 (.t rfl) (.t rfl) (by first | omega | (simp; done) | (simp; omega) | (simp at *; omega)) (by first | omega | (simp; done) | (simp; omega) | (simp at *; omega)) rfl, ?_⟩
    refine ⟨_, OpP.call1 hG (vRead_c _) (.cons (.t rfl) .nil) rfl, ?_⟩
    refine ⟨_, OpP.move (.t rfl) rfl, ?_⟩
    refine ⟨_, OpP.ext3_0 (.t rfl) rfl, ?_⟩
    refine ⟨_, OpP.ext3_1 (.t rfl) rfl, ?_⟩
    refine ⟨_, OpP.ext3_2 (.t rfl) rfl, ?_⟩
    refine ⟨_, OpP.assign (.t rfl) rfl, ?_⟩
    refine ⟨_, OpP.assign (.t rfl) rfl, ?_⟩
    refine ⟨_, OpP.assign (.t rfl) rfl, ?_⟩
    show wpB _ _ _ _ _ [] ((5, _) :: (4, _) :: (3, _) :: (24, _) :: (23, _) :: (22, _) :: (11, _) :: (21, _) :: (20, _) :: (19, _) :: (18, _) :: (17, _) :: (16, _) :: (15, _) :: (14, _) :: (13, _) :: (12, _) :: _) _
    refine .q 10 hG ?_ -- @ predicate.reader).number s s s 4.0 4.1 4.2 4.3 4.4 4.5 4.6
    refine .ad (by first | omega | (simp; done) | (simp; omega) | (simp at *; omega)) (by first | omega | (simp; done) | (simp; omega) | (simp at *; omega)) ?_ -- @ predicate.reader).number 4.7
    refine .q 14 hG ?_ -- @ predicate.reader).number 4.8 4.9 4.10 4.11 4.12 4.13 4.14 s s s 5.0 5.1 s s
    refine ⟨_, .r1 rfl (.tmp rfl), ?_⟩
    have e0 : prNum r = ((readF (r.b.drop r.used.toNat)).1, ⟨r.b, r.used + (readF (r.b.drop r.used.toNat)).2.1, (readF (r.b.drop r.used.toNat)).2.2⟩) := if_neg hc10
    refine ⟨_, .cons .z (.nil), ?_⟩
    rw [e0]; exact ⟨rfl, rfl⟩
theorem prMask_c (w : Value) (r : PRd) (h : PROk r) : FunH gl Tryz.prog 27 [pr w] [.ob w r] (fun x Hs => x = .v (prMask r).1 ∧ Hs = [.ob w (prMask r).2]) := by
  obtain ⟨h0, h1, h2⟩ := h
  refine FunH.introS Tryz.func27 rfl (by kernel_rfl) 53 rfl rfl _ rfl _ rfl fun C hC hG => ?_
  refine .q 6 hG ?_ -- @ predicate.reader).mask s s 0.0 s s s
  refine .draw (by kernel_rfl) 11 [[], [(6, 0)], [(7, 1)], [(8, 2)], [(9, 3)], [], [(11, 5)], [(12, 6)], [(13, 7)], [(10, 4), (14, 8)], [(15, 9)]] rfl (by kernel_rfl) rfl ?_
  refine ⟨_, OpP.move (.t rfl) rfl, ?_⟩
  refine ⟨_, OpP.nilCheckL (.t rfl) rfl, ?_⟩
  refine ⟨_, OpP.fldW G_predicate_reader.l0 fd54_0 rfl (.t rfl) rfl, ?_⟩
  refine ⟨_, OpP.ldF (fun x => x.b) ty25 (.t rfl) .z (fun _ => rfl) rfl, ?_⟩
  refine ⟨_, OpP.len Tryz.underlying25 (.t rfl) rfl, ?_⟩
  refine ⟨_, OpP.move (.t rfl) rfl, ?_⟩
  refine ⟨_, OpP.nilCheckL (.t rfl) rfl, ?_⟩
  refine ⟨_, OpP.fldW G_predicate_reader.l1 fd54_1 rfl (.t rfl) rfl, ?_⟩
  refine ⟨_, OpP.ldF (fun x => x.used) ty3 (.t rfl) .z (fun _ => rfl) rfl, ?_⟩
  refine ⟨_, OpP.sub (.t rfl) (.t rfl) (by first | omega | (simp; done) | (simp; omega) | (simp at *; omega)) (by first | omega | (simp; done) | (simp; omega) | (simp at *; omega)) rfl, ?_⟩
  refine ⟨_, OpP.lss (.t rfl) (.i rfl) rfl, ?_⟩
  show wpB _ _ _ _ _ [] ((16, _) :: (15, _) :: (14, _) :: (13, _) :: (12, _) :: (11, _) :: (10, _) :: (9, _) :: (8, _) :: (7, _) :: (6, _) :: _) _
  refine .q 2 hG ⟨fun hc16 => ?_, fun hc16 => ?_⟩ -- @ predicate.reader).mask s c16
  · refine .q 12 hG ?_ -- @ predicate.reader).mask s s 2.0 2.1 2.2 2.3 s s s 3.0 s s
    refine ⟨_, .r1 rfl (.tmp rfl), ?_⟩
    have e0 : prMask r = (0, ⟨r.b, r.used, 3⟩) := if_pos hc16
    refine ⟨_, .cons .z (.nil), ?_⟩
    rw [e0]; exact ⟨rfl, rfl⟩
  · refine .q 7 hG ?_ -- @ predicate.reader).mask s s s 4.0 s s s
    have h3 : r.used + 8 ≤ r.b.length := (by omega)
    have h4 : (r.used + 8).toNat ≤ r.b.length := (by omega)
    have hl : ((r.b.take (r.used + 8).toNat).drop r.used.toNat).length = 8 := (by rw [List.length_drop, List.length_take, Nat.min_eq_left h4]; omega)
    refine .draw (by kernel_rfl) 16 [[], [(20, 0)], [(21, 1)], [(22, 2)], [], [(24, 4)], [(25, 5)], [(26, 6)], [], [(28, 8)], [(29, 9)], [(30, 10)], [(31, 11)], [(23, 3), (27, 7), (32, 12)], [(33, 13)], []] rfl (by kernel_rfl) rfl ?_
    refine ⟨_, OpP.move (.t rfl) rfl, ?_⟩
    refine ⟨_, OpP.nilCheckL (.t rfl) rfl, ?_⟩
    refine ⟨_, OpP.fldW G_predicate_reader.l0 fd54_0 rfl (.t rfl) rfl, ?_⟩
    refine ⟨_, OpP.ldF (fun x => x.b) ty25 (.t rfl) .z (fun _ => rfl) rfl, ?_⟩
    refine ⟨_, OpP.move (.t rfl) rfl, ?_⟩
    refine ⟨_, OpP.nilCheckL (.t rfl) rfl, ?_⟩
    refine ⟨_, OpP.fldW G_predicate_reader.l1 fd54_1 rfl (.t rfl) rfl, ?_⟩
    refine ⟨_, OpP.ldF (fun x => x.used) ty3 (.t rfl) .z (fun _ => rfl) rfl, ?_⟩
    refine ⟨_, OpP.move (.t rfl) rfl, ?_⟩
    refine ⟨_, OpP.nilCheckL (.t rfl) rfl, ?_⟩
    refine ⟨_, OpP.fldW G_predicate_reader.l1 fd54_1 rfl (.t rfl) rfl, ?_⟩
    refine ⟨_, OpP.ldF (fun x => x.used) ty3 (.t rfl) .z (fun _ => rfl) rfl, ?_⟩
    refine ⟨_, OpP.add (.t rfl) (.i rfl) (by first | omega | (simp; done) | (simp; omega) | (simp at *; omega)) (by first | omega | (simp; done) | (simp; omega) | (simp at *; omega)) rfl, ?_⟩
    refine ⟨_, OpP.slLH ty5 Tryz.underlying25 (.t rfl) (.t rfl) (.t rfl) (by first | omega | (simp; done) | (simp; omega) | (simp at *; omega)) (by first | omega | (simp; done) | (simp; omega) | (simp at *; omega)) (by first | omega | (simp; done) | (simp; omega) | (simp at *; omega)) rfl, ?_⟩
    refine ⟨_, OpP.len Tryz.underlying25 (.t rfl) rfl, ?_⟩
    refine ⟨_, OpP.move (.i rfl) rfl, ?_⟩
    show wpB _ _ _ _ _ [] ((35, _) :: (34, _) :: (33, _) :: (32, _) :: (31, _) :: (30, _) :: (29, _) :: (28, _) :: (27, _) :: (26, _) :: (25, _) :: (24, _) :: (23, _) :: (22, _) :: (21, _) :: (20, _) :: _) _
    refine .q 2 hG ?_ -- @ predicate.reader).mask s s
    refine .loopR (α := Nat) [(0, _), (33, _), (34, _)] (fun k R => (3, .v (readN ((r.b.take (r.used + 8).toNat).drop r.used.toNat) k)) :: (35, .v (k : Int)) :: R) (fun k => [(false, .ob w r)]) (fun k => k ≤ 8) (fun k => 8 - k) (0) (.cons rfl (.cons rfl (.cons rfl (.nil _)))) ?_ (.cons rfl (.cons rfl (.cons rfl (.cons rfl (.cons rfl (.nil _)))))) (rfl) fun k hF => ?_
    · decide
    refine .q 6 hG ⟨fun hc36 => ?_, fun hc36 => ?_⟩ -- @ predicate.reader).mask s s 6.0 s s c36
    · refine .q 5 hG ?_ -- @ predicate.reader).mask s s s s s
      refine .ix (by first | omega | (simp; done) | (simp; omega) | (simp at *; omega)) (by first | omega | (simp; done) | (simp; omega) | (simp at *; omega)) ?_ -- @ predicate.reader).mask 7.0
      refine .q 5 hG ?_ -- @ predicate.reader).mask 7.1 7.2 s s 8.0
      refine .p (.shl64 (.t rfl) (.u64 8 rfl) (by first | omega | (simp; done) | (simp; omega) | (simp at *; omega)) (by first | omega | (simp; done) | (simp; omega) | (simp at *; omega)) ?_)
      refine .q 1 hG ?_ -- @ predicate.reader).mask 8.2
      refine .p (.conv8_64 Tryz.underlying5 Tryz.underlying22 (.t rfl) ?_)
      refine .q 4 hG ?_ -- @ predicate.reader).mask 8.4 8.5 s s
      refine .ad (by first | omega | (simp; done) | (simp; omega) | (simp at *; omega)) (by first | omega | (simp; done) | (simp; omega) | (simp at *; omega)) ?_ -- @ predicate.reader).mask 9.0
      refine .q 2 hG ?_ -- @ predicate.reader).mask 9.1 s
      refine ⟨k + 1, .cons (congrArg (fun q => some (AV.v q)) ((shl_or _ _).trans (readN_succ _ k (by omega)))) (.cons rfl (.cons rfl (.cons rfl (.cons rfl (.nil _))))), rfl, ?_, by omega⟩
      omega
    · refine .q 7 hG ?_ -- @ predicate.reader).mask s s s 10.0 10.1 10.2 10.3
      refine .ad (by first | omega | (simp; done) | (simp; omega) | (simp at *; omega)) (by first | omega | (simp; done) | (simp; omega) | (simp at *; omega)) ?_ -- @ predicate.reader).mask 10.4
      refine .q 10 hG ?_ -- @ predicate.reader).mask 10.5 10.6 10.7 s s s 11.0 11.1 s s
      refine ⟨_, .r1 rfl (.tmp rfl), ?_⟩
      obtain rfl : k = 8 := (by omega)
      have e0 : prMask r = (readN ((r.b.take (r.used + 8).toNat).drop r.used.toNat) 8, ⟨r.b, r.used + 8, r.e⟩) := if_neg hc16
      refine ⟨_, .cons .z (.nil), ?_⟩
      rw [e0]; exact ⟨rfl, rfl⟩
theorem prName_c (w : Value) (r : PRd) (h : PROk r) : FunH gl Tryz.prog 28 [pr w] [.ob w r] (fun x Hs => x = .v (prName r).1 ∧ Hs = [.ob w (prName r).2]) := by
  obtain ⟨h0, h1, h2⟩ := h
  have hu := fieldF_used (r.b.drop r.used.toNat)
  have hdl : (r.b.drop r.used.toNat).length = r.b.length - r.used.toNat := List.length_drop
  refine FunH.introS Tryz.func28 rfl (by kernel_rfl) 35 rfl rfl _ rfl _ rfl fun C hC hG => ?_
  refine .q 5 hG ?_ -- @ predicate.reader).name s s 0.0 s s
  refine .draw (by kernel_rfl) 17 [[], [(7, 0)], [(8, 1)], [(9, 2)], [], [(11, 4)], [(12, 5)], [(13, 6)], [(10, 3), (14, 7)], [(15, 8)], [(16, 9)], [(6, 10)], [(6, 10)], [(6, 10)], [(17, 11)], [(18, 12)], [(19, 13)]] rfl (by kernel_rfl) rfl ?_
  refine ⟨_, OpP.move (.t rfl) rfl, ?_⟩
  refine ⟨_, OpP.nilCheckL (.t rfl) rfl, ?_⟩
  refine ⟨_, OpP.fldW G_predicate_reader.l0 fd54_0 rfl (.t rfl) rfl, ?_⟩
  refine ⟨_, OpP.ldF (fun x => x.b) ty25 (.t rfl) .z (fun _ => rfl) rfl, ?_⟩
  refine ⟨_, OpP.move (.t rfl) rfl, ?_⟩
  refine ⟨_, OpP.nilCheckL (.t rfl) rfl, ?_⟩
  refine ⟨_, OpP.fldW G_predicate_reader.l1 fd54_1 rfl (.t rfl) rfl, ?_⟩
  refine ⟨_, OpP.ldF (fun x => x.used) ty3 (.t rfl) .z (fun _ => rfl) rfl, ?_⟩
  refine ⟨_, OpP.slLo ty5 Tryz.underlying25 (.t rfl) (.t rfl) (by first | omega | (simp; done) | (simp; omega) | (simp at *; omega)) (by first | omega | (simp; done) | (simp; omega) | (simp at *; omega)) rfl, ?_⟩
  refine ⟨_, OpP.call1 hG (fRead_c _ (by omega)) (.cons (.t rfl) .nil) rfl, ?_⟩
  refine ⟨_, OpP.move (.t rfl) rfl, ?_⟩
  refine ⟨_, OpP.ext3_0 (.t rfl) rfl, ?_⟩
  refine ⟨_, OpP.ext3_1 (.t rfl) rfl, ?_⟩
  refine ⟨_, OpP.ext3_2 (.t rfl) rfl, ?_⟩
  refine ⟨_, OpP.assign (.t rfl) rfl, ?_⟩
  refine ⟨_, OpP.assign (.t rfl) rfl, ?_⟩
  refine ⟨_, OpP.assign (.t rfl) rfl, ?_⟩
  show wpB _ _ _ _ _ [] ((5, _) :: (4, _) :: (3, _) :: (19, _) :: (18, _) :: (17, _) :: (6, _) :: (16, _) :: (15, _) :: (14, _) :: (13, _) :: (12, _) :: (11, _) :: (10, _) :: (9, _) :: (8, _) :: (7, _) :: _) _
  refine .q 10 hG ?_ -- @ predicate.reader).name s s s 2.0 2.1 2.2 2.3 2.4 2.5 2.6
  refine .ad (by first | omega | (simp; done) | (simp; omega) | (simp at *; omega)) (by first | omega | (simp; done) | (simp; omega) | (simp at *; omega)) ?_ -- @ predicate.reader).name 2.7
  refine .q 11 hG ?_ -- @ predicate.reader).name 2.8 2.9 2.10 2.11 2.12 2.13 2.14 s s s 3.0
  refine .p (.bytesStr Tryz.underlying25 Tryz.underlying5 Tryz.underlying9 (.t rfl) ?_)
  refine .q 3 hG ?_ -- @ predicate.reader).name 3.2 s s
  refine ⟨_, .r1 rfl (.tmp rfl), ?_⟩
  refine ⟨_, .cons .z (.nil), ?_⟩
  exact ⟨rfl, rfl⟩
theorem decB_m {k : Int} {r : PRd} (h : k = 1 ∨ k = 2 ∨ k = 3) : decB k r = (⟨k, (prMask r).1, 0, 0, ⟨[]⟩, 0⟩, (prMask r).2) := if_pos h
theorem decB_t {k : Int} {r : PRd} (h : k = 4 ∨ k = 5) : decB k r = (⟨k, 0, (prNum r).1, (prNum (prNum r).2).1, ⟨[]⟩, 0⟩, (prNum (prNum r).2).2) := by unfold decB; rw [if_neg (by omega), if_pos h]
theorem decB_n {k : Int} {r : PRd} (h : k = 6) : decB k r = (⟨k, 0, 0, 0, (prName r).1, 0⟩, (prName r).2) := by unfold decB; rw [if_neg (by omega), if_neg (by omega), if_pos h]
theorem decB_r {k : Int} {r : PRd} (h : k = 7) : decB k r = (⟨k, 0, 0, 0, ⟨[]⟩, (prNum r).1⟩, (prNum r).2) := by unfold decB; rw [if_neg (by omega), if_neg (by omega), if_neg (by omega)]
section
variable {b : List UInt8} {q : Pred × PRd}
theorem decF_1 (h : (prNum ⟨b, 0, 0⟩).2.e ≠ 0) : decF b = (default, 0, (prNum ⟨b, 0, 0⟩).2.e) := if_pos h
theorem decF_6 (h : ¬ (prNum ⟨b, 0, 0⟩).2.e ≠ 0) (hk : (prNum ⟨b, 0, 0⟩).1 < 1 ∨ 7 < (prNum ⟨b, 0, 0⟩).1) : decF b = (default, 0, 6) := by unfold decF; rw [if_neg h, if_pos hk]
theorem decF_e (h : ¬ (prNum ⟨b, 0, 0⟩).2.e ≠ 0) (hk : ¬ ((prNum ⟨b, 0, 0⟩).1 < 1 ∨ 7 < (prNum ⟨b, 0, 0⟩).1)) (hq : decB (prNum ⟨b, 0, 0⟩).1 (prNum ⟨b, 0, 0⟩).2 = q) (he : q.2.e ≠ 0) : decF b = (default, 0, q.2.e) := by
  unfold decF; rw [if_neg h, if_neg hk, hq, if_pos he]
theorem decF_5 (h : ¬ (prNum ⟨b, 0, 0⟩).2.e ≠ 0) (hk : ¬ ((prNum ⟨b, 0, 0⟩).1 < 1 ∨ 7 < (prNum ⟨b, 0, 0⟩).1)) (hq : decB (prNum ⟨b, 0, 0⟩).1 (prNum ⟨b, 0, 0⟩).2 = q) (he : ¬ q.2.e ≠ 0) (hv : (!predOk q.1) = true) : decF b = (default, 0, 5) := by
  unfold decF; rw [if_neg h, if_neg hk, hq, if_neg he, if_neg (by simpa using hv)]
theorem decF_0 (h : ¬ (prNum ⟨b, 0, 0⟩).2.e ≠ 0) (hk : ¬ ((prNum ⟨b, 0, 0⟩).1 < 1 ∨ 7 < (prNum ⟨b, 0, 0⟩).1)) (hq : decB (prNum ⟨b, 0, 0⟩).1 (prNum ⟨b, 0, 0⟩).2 = q) (he : ¬ q.2.e ≠ 0) (hv : (!predOk q.1) = false) : decF b = (q.1, q.2.used, 0) := by
  unfold decF; rw [if_neg h, if_neg hk, hq, if_neg he, if_pos (by simpa using hv)]
end
theorem predDec_c (b : List UInt8) (hb : b.length ≤ 1000000) : FunA gl Tryz.prog 10 [.v b] (fun r => r = .t3 (.v (decF b).1) (.v (decF b).2.1) (.v (decF b).2.2)) := by
  have ok0 : PROk ⟨b, 0, 0⟩ := ⟨Int.le_refl _, Int.natCast_nonneg _, hb⟩
  have ok1 := prNum_ok ok0
  refine FunA.intro Tryz.func10 rfl (by kernel_rfl) 71 rfl rfl _ rfl fun C hC hG => ?_
  refine .q 3 hG fun b2 => ?_ -- @ predicate.Decode s s 0.0
  refine .q 6 hG ?_ -- @ predicate.Decode 0.1 0.2 s s s 1.0
  refine .p (.bS1 G_predicate_reader.l0 rfl ty54 fo54 (fun c0 => (⟨c0, 0, 0⟩ : G_predicate_reader)) (fun _ => rfl) rfl rfl (.t rfl) ?_)
  refine .q 1 hG fun b9 => ?_ -- @ predicate.Decode 1.2
  refine .q 5 hG ?_ -- @ predicate.Decode 1.3 s s s 2.0
  refine .km hG (prNum_c _ _ (by first | assumption | exact prNum_ok ok1)) .z (by rintro _ _ ⟨_, rfl⟩; exact ⟨_, rfl⟩) fun r11 B11 hr11 => ?_ -- @ predicate.Decode 2.1
  obtain ⟨rfl, hB⟩ := hr11
  cases hB
  refine .p (.bS1 G_api_Predicate.l0 rfl ty24 fo24 (fun c0 => (⟨c0, 0, 0, 0, ⟨[]⟩, 0⟩ : G_api_Predicate)) (fun _ => rfl) rfl rfl (.t rfl) ?_)
  refine .q 1 hG fun b6 => ?_ -- @ predicate.Decode 2.3
  refine .q 12 hG ⟨fun hc17 => ?_, fun hc17 => ?_⟩ -- @ predicate.Decode 2.4 s s s s 3.0 3.1 3.2 3.3 3.4 s c17
  · refine .q 1 hG ?_ -- @ predicate.Decode s
    refine .drawCF [false, false, true] (by kernel_rfl) 8 [[], [], [(19, 1)], [(20, 2)], [(21, 3)], [(18, 0)], [], [(22, 4)]] [5] rfl (by kernel_rfl) rfl (by kernel_rfl) (by decide) ?_
    refine ⟨_, fun H => OpP.bS0 (α := G_api_Predicate) rfl ty24 fo24 rfl, ?_⟩
    refine ⟨_, fun H => OpP.move (.t rfl) rfl, ?_⟩
    refine ⟨_, fun H => OpP.nilCheckL (.t rfl) rfl, ?_⟩
    refine ⟨_, fun H => OpP.fldW G_predicate_reader.l2 fd54_2 rfl (.t rfl) rfl, ?_⟩
    refine ⟨_, fun H => OpP.ldF (fun x => x.e) ty27 (.t rfl) (Hole.app (.s .z)) (fun _ => rfl) rfl, ?_⟩
    refine .inl ?_
    refine ⟨_, fun H => OpP.assign (.i rfl) rfl, ?_⟩
    refine ⟨_, fun H => OpP.assign (.t rfl) rfl, ?_⟩
    refine ⟨⟨([], fun k => List.getD [(true, .none_), (true, .none_), _] k (true, .none_)), rfl⟩, ?_⟩
    refine OpH.stW ty24 (.t rfl) (.t rfl) (.s (.s .z)) ?_
    refine ⟨⟨([], fun k => List.getD [(true, .none_), (true, .none_), _] k (true, .none_)), rfl⟩, ?_⟩
    show wpB _ _ _ _ _ [] ((4, _) :: (3, _) :: (22, _) :: (21, _) :: (20, _) :: (19, _) :: (18, _) :: _) _
    refine .q 2 hG ?_ -- @ predicate.Decode s s
    refine ⟨_, .r3 rfl (.cell ty24 rfl (.s (.s .z))) (.tmp rfl) (.tmp rfl), ?_⟩
    dsimp only at *
    first | (exfalso; omega) | (rw [decF_1 hc17]; done) | (rw [decF_6 hc17 (by omega)]; done) | (rw [decF_e hc17 (by omega) (decB_m (by omega)) hc56]; done) | (rw [decF_e hc17 (by omega) (decB_t (by omega)) hc56]; done) | (rw [decF_e hc17 (by omega) (decB_n (by omega)) hc56]; done) | (rw [decF_e hc17 (by omega) (decB_r (by omega)) hc56]; done) | (rw [decF_5 hc17 (by omega) (decB_m (by omega)) hc56 hc64]; done) | (rw [decF_5 hc17 (by omega) (decB_t (by omega)) hc56 hc64]; done) | (rw [decF_5 hc17 (by omega) (decB_n (by omega)) hc56 hc64]; done) | (rw [decF_5 hc17 (by omega) (decB_r (by omega)) hc56 hc64]; done) | (rw [decF_0 hc17 (by omega) (decB_m (by omega)) hc56 hc64]; done) | (rw [decF_0 hc17 (by omega) (decB_t (by omega)) hc56 hc64]; done) | (rw [decF_0 hc17 (by omega) (decB_n (by omega)) hc56 hc64]; done) | (rw [decF_0 hc17 (by omega) (decB_r (by omega)) hc56 hc64]; done)
  · refine .q 15 hG ⟨fun hc26 => ?_, fun hc26 => ?_⟩ -- @ predicate.Decode s s s s 5.0 5.1 s s s s s 7.0 7.1 s c26
    · refine .q 2 hG ⟨fun hc26y => ?_, fun y => absurd hc26 y⟩ -- @ predicate.Decode s c26
      refine .q 2 hG ?_ -- @ predicate.Decode s 10.0
      refine .km hG (prMask_c _ _ ok1) (.s .z) (by rintro _ _ ⟨_, rfl⟩; exact ⟨_, rfl⟩) fun r31 B31 hr31 => ?_ -- @ predicate.Decode 10.1
      obtain ⟨rfl, hB⟩ := hr31
      cases hB
      refine .q 13 hG ⟨fun hc56 => ?_, fun hc56 => ?_⟩ -- @ predicate.Decode 10.2 10.3 s s s s 18.0 18.1 18.2 18.3 18.4 s c56
      · refine .q 1 hG ?_ -- @ predicate.Decode s
        refine .drawCF [false, false, true] (by kernel_rfl) 8 [[], [], [(58, 1)], [(59, 2)], [(60, 3)], [(57, 0)], [], [(61, 4)]] [5] rfl (by kernel_rfl) rfl (by kernel_rfl) (by decide) ?_
        refine ⟨_, fun H => OpP.bS0 (α := G_api_Predicate) rfl ty24 fo24 rfl, ?_⟩
        refine ⟨_, fun H => OpP.move (.t rfl) rfl, ?_⟩
        refine ⟨_, fun H => OpP.nilCheckL (.t rfl) rfl, ?_⟩
        refine ⟨_, fun H => OpP.fldW G_predicate_reader.l2 fd54_2 rfl (.t rfl) rfl, ?_⟩
        refine ⟨_, fun H => OpP.ldF (fun x => x.e) ty27 (.t rfl) (Hole.app (.s .z)) (fun _ => rfl) rfl, ?_⟩
        refine .inl ?_
        refine ⟨_, fun H => OpP.assign (.i rfl) rfl, ?_⟩
        refine ⟨_, fun H => OpP.assign (.t rfl) rfl, ?_⟩
        refine ⟨⟨([], fun k => List.getD [(true, .none_), (true, .none_), _] k (true, .none_)), rfl⟩, ?_⟩
        refine OpH.stW ty24 (.t rfl) (.t rfl) (.s (.s .z)) ?_
        refine ⟨⟨([], fun k => List.getD [(true, .none_), (true, .none_), _] k (true, .none_)), rfl⟩, ?_⟩
        show wpB _ _ _ _ _ [] ((4, _) :: (3, _) :: (61, _) :: (60, _) :: (59, _) :: (58, _) :: (57, _) :: _) _
        refine .q 2 hG ?_ -- @ predicate.Decode s s
        refine ⟨_, .r3 rfl (.cell ty24 rfl (.s (.s .z))) (.tmp rfl) (.tmp rfl), ?_⟩
        dsimp only at *
        first | (exfalso; omega) | (rw [decF_1 hc17]; done) | (rw [decF_6 hc17 (by omega)]; done) | (rw [decF_e hc17 (by omega) (decB_m (by omega)) hc56]; done) | (rw [decF_e hc17 (by omega) (decB_t (by omega)) hc56]; done) | (rw [decF_e hc17 (by omega) (decB_n (by omega)) hc56]; done) | (rw [decF_e hc17 (by omega) (decB_r (by omega)) hc56]; done) | (rw [decF_5 hc17 (by omega) (decB_m (by omega)) hc56 hc64]; done) | (rw [decF_5 hc17 (by omega) (decB_t (by omega)) hc56 hc64]; done) | (rw [decF_5 hc17 (by omega) (decB_n (by omega)) hc56 hc64]; done) | (rw [decF_5 hc17 (by omega) (decB_r (by omega)) hc56 hc64]; done) | (rw [decF_0 hc17 (by omega) (decB_m (by omega)) hc56 hc64]; done) | (rw [decF_0 hc17 (by omega) (decB_t (by omega)) hc56 hc64]; done) | (rw [decF_0 hc17 (by omega) (decB_n (by omega)) hc56 hc64]; done) | (rw [decF_0 hc17 (by omega) (decB_r (by omega)) hc56 hc64]; done)
      · refine .q 5 hG ?_ -- @ predicate.Decode s s s s 20.0
        refine .k hG (predValid_c _) ?_ -- @ predicate.Decode 20.1
        refine .q 2 hG ?_ -- @ predicate.Decode 20.2 s
        refine .cond (.t rfl) (fun hc64 => ?_) (fun hc64 => ?_)
        · refine .q 2 hG ?_ -- @ predicate.Decode s s
          refine .p (.bS0 (α := G_api_Predicate) rfl ty24 fo24 ?_)
          refine .q 5 hG ?_ -- @ predicate.Decode 21.1 21.2 21.3 s s
          refine ⟨_, .r3 rfl (.cell ty24 rfl (.s (.s .z))) (.tmp rfl) (.tmp rfl), ?_⟩
          dsimp only at *
          first | (exfalso; omega) | (rw [decF_1 hc17]; done) | (rw [decF_6 hc17 (by omega)]; done) | (rw [decF_e hc17 (by omega) (decB_m (by omega)) hc56]; done) | (rw [decF_e hc17 (by omega) (decB_t (by omega)) hc56]; done) | (rw [decF_e hc17 (by omega) (decB_n (by omega)) hc56]; done) | (rw [decF_e hc17 (by omega) (decB_r (by omega)) hc56]; done) | (rw [decF_5 hc17 (by omega) (decB_m (by omega)) hc56 hc64]; done) | (rw [decF_5 hc17 (by omega) (decB_t (by omega)) hc56 hc64]; done) | (rw [decF_5 hc17 (by omega) (decB_n (by omega)) hc56 hc64]; done) | (rw [decF_5 hc17 (by omega) (decB_r (by omega)) hc56 hc64]; done) | (rw [decF_0 hc17 (by omega) (decB_m (by omega)) hc56 hc64]; done) | (rw [decF_0 hc17 (by omega) (decB_t (by omega)) hc56 hc64]; done) | (rw [decF_0 hc17 (by omega) (decB_n (by omega)) hc56 hc64]; done) | (rw [decF_0 hc17 (by omega) (decB_r (by omega)) hc56 hc64]; done)
        · refine .q 2 hG ?_ -- @ predicate.Decode s s
          refine .drawCF [false, false, true] (by kernel_rfl) 8 [[], [], [(67, 1)], [(68, 2)], [(69, 3)], [(66, 0)], [(70, 4)], []] [5] rfl (by kernel_rfl) rfl (by kernel_rfl) (by decide) ?_
          refine ⟨_, fun H => OpP.ldW ty24 (.t rfl) (Hole.app .z) rfl, ?_⟩
          refine ⟨_, fun H => OpP.move (.t rfl) rfl, ?_⟩
          refine ⟨_, fun H => OpP.nilCheckL (.t rfl) rfl, ?_⟩
          refine ⟨_, fun H => OpP.fldW G_predicate_reader.l1 fd54_1 rfl (.t rfl) rfl, ?_⟩
          refine ⟨_, fun H => OpP.ldF (fun x => x.used) ty3 (.t rfl) (Hole.app (.s .z)) (fun _ => rfl) rfl, ?_⟩
          refine .inl ?_
          refine ⟨_, fun H => OpP.assign (.t rfl) rfl, ?_⟩
          refine ⟨_, fun H => OpP.assign (.i rfl) rfl, ?_⟩
          refine ⟨⟨([], fun k => List.getD [(true, .none_), (true, .none_), _] k (true, .none_)), rfl⟩, ?_⟩
          refine OpH.stW ty24 (.t rfl) (.t rfl) (.s (.s .z)) ?_
          refine ⟨⟨([], fun k => List.getD [(true, .none_), (true, .none_), _] k (true, .none_)), rfl⟩, ?_⟩
          show wpB _ _ _ _ _ [] ((4, _) :: (3, _) :: (70, _) :: (69, _) :: (68, _) :: (67, _) :: (66, _) :: _) _
          refine .q 2 hG ?_ -- @ predicate.Decode s s
          refine ⟨_, .r3 rfl (.cell ty24 rfl (.s (.s .z))) (.tmp rfl) (.tmp rfl), ?_⟩
          dsimp only at *
          first | (exfalso; omega) | (rw [decF_1 hc17]; done) | (rw [decF_6 hc17 (by omega)]; done) | (rw [decF_e hc17 (by omega) (decB_m (by omega)) hc56]; done) | (rw [decF_e hc17 (by omega) (decB_t (by omega)) hc56]; done) | (rw [decF_e hc17 (by omega) (decB_n (by omega)) hc56]; done) | (rw [decF_e hc17 (by omega) (decB_r (by omega)) hc56]; done) | (rw [decF_5 hc17 (by omega) (decB_m (by omega)) hc56 hc64]; done) | (rw [decF_5 hc17 (by omega) (decB_t (by omega)) hc56 hc64]; done) | (rw [decF_5 hc17 (by omega) (decB_n (by omega)) hc56 hc64]; done) | (rw [decF_5 hc17 (by omega) (decB_r (by omega)) hc56 hc64]; done) | (rw [decF_0 hc17 (by omega) (decB_m (by omega)) hc56 hc64]; done) | (rw [decF_0 hc17 (by omega) (decB_t (by omega)) hc56 hc64]; done) | (rw [decF_0 hc17 (by omega) (decB_n (by omega)) hc56 hc64]; done) | (rw [decF_0 hc17 (by omega) (decB_r (by omega)) hc56 hc64]; done)
    · refine .q 6 hG ⟨fun hc26 => ?_, fun hc26 => ?_⟩ -- @ predicate.Decode s s 8.0 8.1 s c26
      · refine .q 2 hG ⟨fun hc26y => ?_, fun y => absurd hc26 y⟩ -- @ predicate.Decode s c26
        refine .q 2 hG ?_ -- @ predicate.Decode s 10.0
        refine .km hG (prMask_c _ _ ok1) (.s .z) (by rintro _ _ ⟨_, rfl⟩; exact ⟨_, rfl⟩) fun r31 B31 hr31 => ?_ -- @ predicate.Decode 10.1
        obtain ⟨rfl, hB⟩ := hr31
        cases hB
        refine .q 13 hG ⟨fun hc56 => ?_, fun hc56 => ?_⟩ -- @ predicate.Decode 10.2 10.3 s s s s 18.0 18.1 18.2 18.3 18.4 s c56
        · refine .q 1 hG ?_ -- @ predicate.Decode s
          refine .drawCF [false, false, true] (by kernel_rfl) 8 [[], [], [(58, 1)], [(59, 2)], [(60, 3)], [(57, 0)], [], [(61, 4)]] [5] rfl (by kernel_rfl) rfl (by kernel_rfl) (by decide) ?_
          refine ⟨_, fun H => OpP.bS0 (α := G_api_Predicate) rfl ty24 fo24 rfl, ?_⟩
          refine ⟨_, fun H => OpP.move (.t rfl) rfl, ?_⟩
          refine ⟨_, fun H => OpP.nilCheckL (.t rfl) rfl, ?_⟩
          refine ⟨_, fun H => OpP.fldW G_predicate_reader.l2 fd54_2 rfl (.t rfl) rfl, ?_⟩
          refine ⟨_, fun H => OpP.ldF (fun x => x.e) ty27 (.t rfl) (Hole.app (.s .z)) (fun _ => rfl) rfl, ?_⟩
          refine .inl ?_
          refine ⟨_, fun H => OpP.assign (.i rfl) rfl, ?_⟩
          refine ⟨_, fun H => OpP.assign (.t rfl) rfl, ?_⟩
          refine ⟨⟨([], fun k => List.getD [(true, .none_), (true, .none_), _] k (true, .none_)), rfl⟩, ?_⟩
          refine OpH.stW ty24 (.t rfl) (.t rfl) (.s (.s .z)) ?_
          refine ⟨⟨([], fun k => List.getD [(true, .none_), (true, .none_), _] k (true, .none_)), rfl⟩, ?_⟩
          show wpB _ _ _ _ _ [] ((4, _) :: (3, _) :: (61, _) :: (60, _) :: (59, _) :: (58, _) :: (57, _) :: _) _
          refine .q 2 hG ?_ -- @ predicate.Decode s s
          refine ⟨_, .r3 rfl (.cell ty24 rfl (.s (.s .z))) (.tmp rfl) (.tmp rfl), ?_⟩
          dsimp only at *
          first | (exfalso; omega) | (rw [decF_1 hc17]; done) | (rw [decF_6 hc17 (by omega)]; done) | (rw [decF_e hc17 (by omega) (decB_m (by omega)) hc56]; done) | (rw [decF_e hc17 (by omega) (decB_t (by omega)) hc56]; done) | (rw [decF_e hc17 (by omega) (decB_n (by omega)) hc56]; done) | (rw [decF_e hc17 (by omega) (decB_r (by omega)) hc56]; done) | (rw [decF_5 hc17 (by omega) (decB_m (by omega)) hc56 hc64]; done) | (rw [decF_5 hc17 (by omega) (decB_t (by omega)) hc56 hc64]; done) | (rw [decF_5 hc17 (by omega) (decB_n (by omega)) hc56 hc64]; done) | (rw [decF_5 hc17 (by omega) (decB_r (by omega)) hc56 hc64]; done) | (rw [decF_0 hc17 (by omega) (decB_m (by omega)) hc56 hc64]; done) | (rw [decF_0 hc17 (by omega) (decB_t (by omega)) hc56 hc64]; done) | (rw [decF_0 hc17 (by omega) (decB_n (by omega)) hc56 hc64]; done) | (rw [decF_0 hc17 (by omega) (decB_r (by omega)) hc56 hc64]; done)
        · refine .q 5 hG ?_ -- @ predicate.Decode s s s s 20.0
          refine .k hG (predValid_c _) ?_ -- @ predicate.Decode 20.1
          refine .q 2 hG ?_ -- @ predicate.Decode 20.2 s
          refine .cond (.t rfl) (fun hc64 => ?_) (fun hc64 => ?_)
          · refine .q 2 hG ?_ -- @ predicate.Decode s s
            refine .p (.bS0 (α := G_api_Predicate) rfl ty24 fo24 ?_)
            refine .q 5 hG ?_ -- @ predicate.Decode 21.1 21.2 21.3 s s
            refine ⟨_, .r3 rfl (.cell ty24 rfl (.s (.s .z))) (.tmp rfl) (.tmp rfl), ?_⟩
            dsimp only at *
            first | (exfalso; omega) | (rw [decF_1 hc17]; done) | (rw [decF_6 hc17 (by omega)]; done) | (rw [decF_e hc17 (by omega) (decB_m (by omega)) hc56]; done) | (rw [decF_e hc17 (by omega) (decB_t (by omega)) hc56]; done) | (rw [decF_e hc17 (by omega) (decB_n (by omega)) hc56]; done) | (rw [decF_e hc17 (by omega) (decB_r (by omega)) hc56]; done) | (rw [decF_5 hc17 (by omega) (decB_m (by omega)) hc56 hc64]; done) | (rw [decF_5 hc17 (by omega) (decB_t (by omega)) hc56 hc64]; done) | (rw [decF_5 hc17 (by omega) (decB_n (by omega)) hc56 hc64]; done) | (rw [decF_5 hc17 (by omega) (decB_r (by omega)) hc56 hc64]; done) | (rw [decF_0 hc17 (by omega) (decB_m (by omega)) hc56 hc64]; done) | (rw [decF_0 hc17 (by omega) (decB_t (by omega)) hc56 hc64]; done) | (rw [decF_0 hc17 (by omega) (decB_n (by omega)) hc56 hc64]; done) | (rw [decF_0 hc17 (by omega) (decB_r (by omega)) hc56 hc64]; done)
          · refine .q 2 hG ?_ -- @ predicate.Decode s s
            refine .drawCF [false, false, true] (by kernel_rfl) 8 [[], [], [(67, 1)], [(68, 2)], [(69, 3)], [(66, 0)], [(70, 4)], []] [5] rfl (by kernel_rfl) rfl (by kernel_rfl) (by decide) ?_
            refine ⟨_, fun H => OpP.ldW ty24 (.t rfl) (Hole.app .z) rfl, ?_⟩
            refine ⟨_, fun H => OpP.move (.t rfl) rfl, ?_⟩
            refine ⟨_, fun H => OpP.nilCheckL (.t rfl) rfl, ?_⟩
            refine ⟨_, fun H => OpP.fldW G_predicate_reader.l1 fd54_1 rfl (.t rfl) rfl, ?_⟩
            refine ⟨_, fun H => OpP.ldF (fun x => x.used) ty3 (.t rfl) (Hole.app (.s .z)) (fun _ => rfl) rfl, ?_⟩
            refine .inl ?_
            refine ⟨_, fun H => OpP.assign (.t rfl) rfl, ?_⟩
            refine ⟨_, fun H => OpP.assign (.i rfl) rfl, ?_⟩
            refine ⟨⟨([], fun k => List.getD [(true, .none_), (true, .none_), _] k (true, .none_)), rfl⟩, ?_⟩
            refine OpH.stW ty24 (.t rfl) (.t rfl) (.s (.s .z)) ?_
            refine ⟨⟨([], fun k => List.getD [(true, .none_), (true, .none_), _] k (true, .none_)), rfl⟩, ?_⟩
            show wpB _ _ _ _ _ [] ((4, _) :: (3, _) :: (70, _) :: (69, _) :: (68, _) :: (67, _) :: (66, _) :: _) _
            refine .q 2 hG ?_ -- @ predicate.Decode s s
            refine ⟨_, .r3 rfl (.cell ty24 rfl (.s (.s .z))) (.tmp rfl) (.tmp rfl), ?_⟩
            dsimp only at *
            first | (exfalso; omega) | (rw [decF_1 hc17]; done) | (rw [decF_6 hc17 (by omega)]; done) | (rw [decF_e hc17 (by omega) (decB_m (by omega)) hc56]; done) | (rw [decF_e hc17 (by omega) (decB_t (by omega)) hc56]; done) | (rw [decF_e hc17 (by omega) (decB_n (by omega)) hc56]; done) | (rw [decF_e hc17 (by omega) (decB_r (by omega)) hc56]; done) | (rw [decF_5 hc17 (by omega) (decB_m (by omega)) hc56 hc64]; done) | (rw [decF_5 hc17 (by omega) (decB_t (by omega)) hc56 hc64]; done) | (rw [decF_5 hc17 (by omega) (decB_n (by omega)) hc56 hc64]; done) | (rw [decF_5 hc17 (by omega) (decB_r (by omega)) hc56 hc64]; done) | (rw [decF_0 hc17 (by omega) (decB_m (by omega)) hc56 hc64]; done) | (rw [decF_0 hc17 (by omega) (decB_t (by omega)) hc56 hc64]; done) | (rw [decF_0 hc17 (by omega) (decB_n (by omega)) hc56 hc64]; done) | (rw [decF_0 hc17 (by omega) (decB_r (by omega)) hc56 hc64]; done)
      · refine .q 5 hG ⟨fun hc26 => ?_, fun hc26 => ?_⟩ -- @ predicate.Decode s 9.0 9.1 s c26
        · refine .q 2 hG ?_ -- @ predicate.Decode s 10.0
          refine .km hG (prMask_c _ _ ok1) (.s .z) (by rintro _ _ ⟨_, rfl⟩; exact ⟨_, rfl⟩) fun r31 B31 hr31 => ?_ -- @ predicate.Decode 10.1
          obtain ⟨rfl, hB⟩ := hr31
          cases hB
          refine .q 13 hG ⟨fun hc56 => ?_, fun hc56 => ?_⟩ -- @ predicate.Decode 10.2 10.3 s s s s 18.0 18.1 18.2 18.3 18.4 s c56
          · refine .q 1 hG ?_ -- @ predicate.Decode s
            refine .drawCF [false, false, true] (by kernel_rfl) 8 [[], [], [(58, 1)], [(59, 2)], [(60, 3)], [(57, 0)], [], [(61, 4)]] [5] rfl (by kernel_rfl) rfl (by kernel_rfl) (by decide) ?_
            refine ⟨_, fun H => OpP.bS0 (α := G_api_Predicate) rfl ty24 fo24 rfl, ?_⟩
            refine ⟨_, fun H => OpP.move (.t rfl) rfl, ?_⟩
            refine ⟨_, fun H => OpP.nilCheckL (.t rfl) rfl, ?_⟩
            refine ⟨_, fun H => OpP.fldW G_predicate_reader.l2 fd54_2 rfl (.t rfl) rfl, ?_⟩
            refine ⟨_, fun H => OpP.ldF (fun x => x.e) ty27 (.t rfl) (Hole.app (.s .z)) (fun _ => rfl) rfl, ?_⟩
            refine .inl ?_
            refine ⟨_, fun H => OpP.assign (.i rfl) rfl, ?_⟩
            refine ⟨_, fun H => OpP.assign (.t rfl) rfl, ?_⟩
            refine ⟨⟨([], fun k => List.getD [(true, .none_), (true, .none_), _] k (true, .none_)), rfl⟩, ?_⟩
            refine OpH.stW ty24 (.t rfl) (.t rfl) (.s (.s .z)) ?_
            refine ⟨⟨([], fun k => List.getD [(true, .none_), (true, .none_), _] k (true, .none_)), rfl⟩, ?_⟩
            show wpB _ _ _ _ _ [] ((4, _) :: (3, _) :: (61, _) :: (60, _) :: (59, _) :: (58, _) :: (57, _) :: _) _
            refine .q 2 hG ?_ -- @ predicate.Decode s s
            refine ⟨_, .r3 rfl (.cell ty24 rfl (.s (.s .z))) (.tmp rfl) (.tmp rfl), ?_⟩
            dsimp only at *
            first | (exfalso; omega) | (rw [decF_1 hc17]; done) | (rw [decF_6 hc17 (by omega)]; done) | (rw [decF_e hc17 (by omega) (decB_m (by omega)) hc56]; done) | (rw [decF_e hc17 (by omega) (decB_t (by omega)) hc56]; done) | (rw [decF_e hc17 (by omega) (decB_n (by omega)) hc56]; done) | (rw [decF_e hc17 (by omega) (decB_r (by omega)) hc56]; done) | (rw [decF_5 hc17 (by omega) (decB_m (by omega)) hc56 hc64]; done) | (rw [decF_5 hc17 (by omega) (decB_t (by omega)) hc56 hc64]; done) | (rw [decF_5 hc17 (by omega) (decB_n (by omega)) hc56 hc64]; done) | (rw [decF_5 hc17 (by omega) (decB_r (by omega)) hc56 hc64]; done) | (rw [decF_0 hc17 (by omega) (decB_m (by omega)) hc56 hc64]; done) | (rw [decF_0 hc17 (by omega) (decB_t (by omega)) hc56 hc64]; done) | (rw [decF_0 hc17 (by omega) (decB_n (by omega)) hc56 hc64]; done) | (rw [decF_0 hc17 (by omega) (decB_r (by omega)) hc56 hc64]; done)
          · refine .q 5 hG ?_ -- @ predicate.Decode s s s s 20.0
            refine .k hG (predValid_c _) ?_ -- @ predicate.Decode 20.1
            refine .q 2 hG ?_ -- @ predicate.Decode 20.2 s
            refine .cond (.t rfl) (fun hc64 => ?_) (fun hc64 => ?_)
            · refine .q 2 hG ?_ -- @ predicate.Decode s s
              refine .p (.bS0 (α := G_api_Predicate) rfl ty24 fo24 ?_)
              refine .q 5 hG ?_ -- @ predicate.Decode 21.1 21.2 21.3 s s
              refine ⟨_, .r3 rfl (.cell ty24 rfl (.s (.s .z))) (.tmp rfl) (.tmp rfl), ?_⟩
              dsimp only at *
              first | (exfalso; omega) | (rw [decF_1 hc17]; done) | (rw [decF_6 hc17 (by omega)]; done) | (rw [decF_e hc17 (by omega) (decB_m (by omega)) hc56]; done) | (rw [decF_e hc17 (by omega) (decB_t (by omega)) hc56]; done) | (rw [decF_e hc17 (by omega) (decB_n (by omega)) hc56]; done) | (rw [decF_e hc17 (by omega) (decB_r (by omega)) hc56]; done) | (rw [decF_5 hc17 (by omega) (decB_m (by omega)) hc56 hc64]; done) | (rw [decF_5 hc17 (by omega) (decB_t (by omega)) hc56 hc64]; done) | (rw [decF_5 hc17 (by omega) (decB_n (by omega)) hc56 hc64]; done) | (rw [decF_5 hc17 (by omega) (decB_r (by omega)) hc56 hc64]; done) | (rw [decF_0 hc17 (by omega) (decB_m (by omega)) hc56 hc64]; done) | (rw [decF_0 hc17 (by omega) (decB_t (by omega)) hc56 hc64]; done) | (rw [decF_0 hc17 (by omega) (decB_n (by omega)) hc56 hc64]; done) | (rw [decF_0 hc17 (by omega) (decB_r (by omega)) hc56 hc64]; done)
            · refine .q 2 hG ?_ -- @ predicate.Decode s s
              refine .drawCF [false, false, true] (by kernel_rfl) 8 [[], [], [(67, 1)], [(68, 2)], [(69, 3)], [(66, 0)], [(70, 4)], []] [5] rfl (by kernel_rfl) rfl (by kernel_rfl) (by decide) ?_
              refine ⟨_, fun H => OpP.ldW ty24 (.t rfl) (Hole.app .z) rfl, ?_⟩
              refine ⟨_, fun H => OpP.move (.t rfl) rfl, ?_⟩
              refine ⟨_, fun H => OpP.nilCheckL (.t rfl) rfl, ?_⟩
              refine ⟨_, fun H => OpP.fldW G_predicate_reader.l1 fd54_1 rfl (.t rfl) rfl, ?_⟩
              refine ⟨_, fun H => OpP.ldF (fun x => x.used) ty3 (.t rfl) (Hole.app (.s .z)) (fun _ => rfl) rfl, ?_⟩
              refine .inl ?_
              refine ⟨_, fun H => OpP.assign (.t rfl) rfl, ?_⟩
              refine ⟨_, fun H => OpP.assign (.i rfl) rfl, ?_⟩
              refine ⟨⟨([], fun k => List.getD [(true, .none_), (true, .none_), _] k (true, .none_)), rfl⟩, ?_⟩
              refine OpH.stW ty24 (.t rfl) (.t rfl) (.s (.s .z)) ?_
              refine ⟨⟨([], fun k => List.getD [(true, .none_), (true, .none_), _] k (true, .none_)), rfl⟩, ?_⟩
              show wpB _ _ _ _ _ [] ((4, _) :: (3, _) :: (70, _) :: (69, _) :: (68, _) :: (67, _) :: (66, _) :: _) _
              refine .q 2 hG ?_ -- @ predicate.Decode s s
              refine ⟨_, .r3 rfl (.cell ty24 rfl (.s (.s .z))) (.tmp rfl) (.tmp rfl), ?_⟩
              dsimp only at *
              first | (exfalso; omega) | (rw [decF_1 hc17]; done) | (rw [decF_6 hc17 (by omega)]; done) | (rw [decF_e hc17 (by omega) (decB_m (by omega)) hc56]; done) | (rw [decF_e hc17 (by omega) (decB_t (by omega)) hc56]; done) | (rw [decF_e hc17 (by omega) (decB_n (by omega)) hc56]; done) | (rw [decF_e hc17 (by omega) (decB_r (by omega)) hc56]; done) | (rw [decF_5 hc17 (by omega) (decB_m (by omega)) hc56 hc64]; done) | (rw [decF_5 hc17 (by omega) (decB_t (by omega)) hc56 hc64]; done) | (rw [decF_5 hc17 (by omega) (decB_n (by omega)) hc56 hc64]; done) | (rw [decF_5 hc17 (by omega) (decB_r (by omega)) hc56 hc64]; done) | (rw [decF_0 hc17 (by omega) (decB_m (by omega)) hc56 hc64]; done) | (rw [decF_0 hc17 (by omega) (decB_t (by omega)) hc56 hc64]; done) | (rw [decF_0 hc17 (by omega) (decB_n (by omega)) hc56 hc64]; done) | (rw [decF_0 hc17 (by omega) (decB_r (by omega)) hc56 hc64]; done)
        · refine .q 7 hG ⟨fun hc33 => ?_, fun hc33 => ?_⟩ -- @ predicate.Decode s s s 11.0 11.1 s c33
          · refine .q 2 hG ⟨fun hc33y => ?_, fun y => absurd hc33 y⟩ -- @ predicate.Decode s c33
            refine .q 2 hG ?_ -- @ predicate.Decode s 13.0
            refine .km hG (prNum_c _ _ (by first | assumption | exact prNum_ok ok1)) (.s .z) (by rintro _ _ ⟨_, rfl⟩; exact ⟨_, rfl⟩) fun r37 B37 hr37 => ?_ -- @ predicate.Decode 13.1
            obtain ⟨rfl, hB⟩ := hr37
            cases hB
            refine .q 1 hG ?_ -- @ predicate.Decode 13.2
            refine .km hG (prNum_c _ _ (by first | assumption | exact prNum_ok ok1)) (.s .z) (by rintro _ _ ⟨_, rfl⟩; exact ⟨_, rfl⟩) fun r39 B39 hr39 => ?_ -- @ predicate.Decode 13.3
            obtain ⟨rfl, hB⟩ := hr39
            cases hB
            refine .q 15 hG ⟨fun hc56 => ?_, fun hc56 => ?_⟩ -- @ predicate.Decode 13.4 13.5 13.6 13.7 s s s s 18.0 18.1 18.2 18.3 18.4 s c56
            · refine .q 1 hG ?_ -- @ predicate.Decode s
              refine .drawCF [false, false, true] (by kernel_rfl) 8 [[], [], [(58, 1)], [(59, 2)], [(60, 3)], [(57, 0)], [], [(61, 4)]] [5] rfl (by kernel_rfl) rfl (by kernel_rfl) (by decide) ?_
              refine ⟨_, fun H => OpP.bS0 (α := G_api_Predicate) rfl ty24 fo24 rfl, ?_⟩
              refine ⟨_, fun H => OpP.move (.t rfl) rfl, ?_⟩
              refine ⟨_, fun H => OpP.nilCheckL (.t rfl) rfl, ?_⟩
              refine ⟨_, fun H => OpP.fldW G_predicate_reader.l2 fd54_2 rfl (.t rfl) rfl, ?_⟩
              refine ⟨_, fun H => OpP.ldF (fun x => x.e) ty27 (.t rfl) (Hole.app (.s .z)) (fun _ => rfl) rfl, ?_⟩
              refine .inl ?_
              refine ⟨_, fun H => OpP.assign (.i rfl) rfl, ?_⟩
              refine ⟨_, fun H => OpP.assign (.t rfl) rfl, ?_⟩
              refine ⟨⟨([], fun k => List.getD [(true, .none_), (true, .none_), _] k (true, .none_)), rfl⟩, ?_⟩
              refine OpH.stW ty24 (.t rfl) (.t rfl) (.s (.s .z)) ?_
              refine ⟨⟨([], fun k => List.getD [(true, .none_), (true, .none_), _] k (true, .none_)), rfl⟩, ?_⟩
              show wpB _ _ _ _ _ [] ((4, _) :: (3, _) :: (61, _) :: (60, _) :: (59, _) :: (58, _) :: (57, _) :: _) _
              refine .q 2 hG ?_ -- @ predicate.Decode s s
              refine ⟨_, .r3 rfl (.cell ty24 rfl (.s (.s .z))) (.tmp rfl) (.tmp rfl), ?_⟩
              dsimp only at *
              first | (exfalso; omega) | (rw [decF_1 hc17]; done) | (rw [decF_6 hc17 (by omega)]; done) | (rw [decF_e hc17 (by omega) (decB_m (by omega)) hc56]; done) | (rw [decF_e hc17 (by omega) (decB_t (by omega)) hc56]; done) | (rw [decF_e hc17 (by omega) (decB_n (by omega)) hc56]; done) | (rw [decF_e hc17 (by omega) (decB_r (by omega)) hc56]; done) | (rw [decF_5 hc17 (by omega) (decB_m (by omega)) hc56 hc64]; done) | (rw [decF_5 hc17 (by omega) (decB_t (by omega)) hc56 hc64]; done) | (rw [decF_5 hc17 (by omega) (decB_n (by omega)) hc56 hc64]; done) | (rw [decF_5 hc17 (by omega) (decB_r (by omega)) hc56 hc64]; done) | (rw [decF_0 hc17 (by omega) (decB_m (by omega)) hc56 hc64]; done) | (rw [decF_0 hc17 (by omega) (decB_t (by omega)) hc56 hc64]; done) | (rw [decF_0 hc17 (by omega) (decB_n (by omega)) hc56 hc64]; done) | (rw [decF_0 hc17 (by omega) (decB_r (by omega)) hc56 hc64]; done)
            · refine .q 5 hG ?_ -- @ predicate.Decode s s s s 20.0
              refine .k hG (predValid_c _) ?_ -- @ predicate.Decode 20.1
              refine .q 2 hG ?_ -- @ predicate.Decode 20.2 s
              refine .cond (.t rfl) (fun hc64 => ?_) (fun hc64 => ?_)
              · refine .q 2 hG ?_ -- @ predicate.Decode s s
                refine .p (.bS0 (α := G_api_Predicate) rfl ty24 fo24 ?_)
                refine .q 5 hG ?_ -- @ predicate.Decode 21.1 21.2 21.3 s s
                refine ⟨_, .r3 rfl (.cell ty24 rfl (.s (.s .z))) (.tmp rfl) (.tmp rfl), ?_⟩
                dsimp only at *
                first | (exfalso; omega) | (rw [decF_1 hc17]; done) | (rw [decF_6 hc17 (by omega)]; done) | (rw [decF_e hc17 (by omega) (decB_m (by omega)) hc56]; done) | (rw [decF_e hc17 (by omega) (decB_t (by omega)) hc56]; done) | (rw [decF_e hc17 (by omega) (decB_n (by omega)) hc56]; done) | (rw [decF_e hc17 (by omega) (decB_r (by omega)) hc56]; done) | (rw [decF_5 hc17 (by omega) (decB_m (by omega)) hc56 hc64]; done) | (rw [decF_5 hc17 (by omega) (decB_t (by omega)) hc56 hc64]; done) | (rw [decF_5 hc17 (by omega) (decB_n (by omega)) hc56 hc64]; done) | (rw [decF_5 hc17 (by omega) (decB_r (by omega)) hc56 hc64]; done) | (rw [decF_0 hc17 (by omega) (decB_m (by omega)) hc56 hc64]; done) | (rw [decF_0 hc17 (by omega) (decB_t (by omega)) hc56 hc64]; done) | (rw [decF_0 hc17 (by omega) (decB_n (by omega)) hc56 hc64]; done) | (rw [decF_0 hc17 (by omega) (decB_r (by omega)) hc56 hc64]; done)
              · refine .q 2 hG ?_ -- @ predicate.Decode s s
                refine .drawCF [false, false, true] (by kernel_rfl) 8 [[], [], [(67, 1)], [(68, 2)], [(69, 3)], [(66, 0)], [(70, 4)], []] [5] rfl (by kernel_rfl) rfl (by kernel_rfl) (by decide) ?_
                refine ⟨_, fun H => OpP.ldW ty24 (.t rfl) (Hole.app .z) rfl, ?_⟩
                refine ⟨_, fun H => OpP.move (.t rfl) rfl, ?_⟩
                refine ⟨_, fun H => OpP.nilCheckL (.t rfl) rfl, ?_⟩
                refine ⟨_, fun H => OpP.fldW G_predicate_reader.l1 fd54_1 rfl (.t rfl) rfl, ?_⟩
                refine ⟨_, fun H => OpP.ldF (fun x => x.used) ty3 (.t rfl) (Hole.app (.s .z)) (fun _ => rfl) rfl, ?_⟩
                refine .inl ?_
                refine ⟨_, fun H => OpP.assign (.t rfl) rfl, ?_⟩
                refine ⟨_, fun H => OpP.assign (.i rfl) rfl, ?_⟩
                refine ⟨⟨([], fun k => List.getD [(true, .none_), (true, .none_), _] k (true, .none_)), rfl⟩, ?_⟩
                refine OpH.stW ty24 (.t rfl) (.t rfl) (.s (.s .z)) ?_
                refine ⟨⟨([], fun k => List.getD [(true, .none_), (true, .none_), _] k (true, .none_)), rfl⟩, ?_⟩
                show wpB _ _ _ _ _ [] ((4, _) :: (3, _) :: (70, _) :: (69, _) :: (68, _) :: (67, _) :: (66, _) :: _) _
                refine .q 2 hG ?_ -- @ predicate.Decode s s
                refine ⟨_, .r3 rfl (.cell ty24 rfl (.s (.s .z))) (.tmp rfl) (.tmp rfl), ?_⟩
                dsimp only at *
                first | (exfalso; omega) | (rw [decF_1 hc17]; done) | (rw [decF_6 hc17 (by omega)]; done) | (rw [decF_e hc17 (by omega) (decB_m (by omega)) hc56]; done) | (rw [decF_e hc17 (by omega) (decB_t (by omega)) hc56]; done) | (rw [decF_e hc17 (by omega) (decB_n (by omega)) hc56]; done) | (rw [decF_e hc17 (by omega) (decB_r (by omega)) hc56]; done) | (rw [decF_5 hc17 (by omega) (decB_m (by omega)) hc56 hc64]; done) | (rw [decF_5 hc17 (by omega) (decB_t (by omega)) hc56 hc64]; done) | (rw [decF_5 hc17 (by omega) (decB_n (by omega)) hc56 hc64]; done) | (rw [decF_5 hc17 (by omega) (decB_r (by omega)) hc56 hc64]; done) | (rw [decF_0 hc17 (by omega) (decB_m (by omega)) hc56 hc64]; done) | (rw [decF_0 hc17 (by omega) (decB_t (by omega)) hc56 hc64]; done) | (rw [decF_0 hc17 (by omega) (decB_n (by omega)) hc56 hc64]; done) | (rw [decF_0 hc17 (by omega) (decB_r (by omega)) hc56 hc64]; done)
          · refine .q 5 hG ⟨fun hc33 => ?_, fun hc33 => ?_⟩ -- @ predicate.Decode s 12.0 12.1 s c33
            · refine .q 2 hG ?_ -- @ predicate.Decode s 13.0
              refine .km hG (prNum_c _ _ (by first | assumption | exact prNum_ok ok1)) (.s .z) (by rintro _ _ ⟨_, rfl⟩; exact ⟨_, rfl⟩) fun r37 B37 hr37 => ?_ -- @ predicate.Decode 13.1
              obtain ⟨rfl, hB⟩ := hr37
              cases hB
              refine .q 1 hG ?_ -- @ predicate.Decode 13.2
              refine .km hG (prNum_c _ _ (by first | assumption | exact prNum_ok ok1)) (.s .z) (by rintro _ _ ⟨_, rfl⟩; exact ⟨_, rfl⟩) fun r39 B39 hr39 => ?_ -- @ predicate.Decode 13.3
              obtain ⟨rfl, hB⟩ := hr39
              cases hB
              refine .q 15 hG ⟨fun hc56 => ?_, fun hc56 => ?_⟩ -- @ predicate.Decode 13.4 13.5 13.6 13.7 s s s s 18.0 18.1 18.2 18.3 18.4 s c56
              · refine .q 1 hG ?_ -- @ predicate.Decode s
                refine .drawCF [false, false, true] (by kernel_rfl) 8 [[], [], [(58, 1)], [(59, 2)], [(60, 3)], [(57, 0)], [], [(61, 4)]] [5] rfl (by kernel_rfl) rfl (by kernel_rfl) (by decide) ?_
                refine ⟨_, fun H => OpP.bS0 (α := G_api_Predicate) rfl ty24 fo24 rfl, ?_⟩
                refine ⟨_, fun H => OpP.move (.t rfl) rfl, ?_⟩
                refine ⟨_, fun H => OpP.nilCheckL (.t rfl) rfl, ?_⟩
                refine ⟨_, fun H => OpP.fldW G_predicate_reader.l2 fd54_2 rfl (.t rfl) rfl, ?_⟩
                refine ⟨_, fun H => OpP.ldF (fun x => x.e) ty27 (.t rfl) (Hole.app (.s .z)) (fun _ => rfl) rfl, ?_⟩
                refine .inl ?_
                refine ⟨_, fun H => OpP.assign (.i rfl) rfl, ?_⟩
                refine ⟨_, fun H => OpP.assign (.t rfl) rfl, ?_⟩
                refine ⟨⟨([], fun k => List.getD [(true, .none_), (true, .none_), _] k (true, .none_)), rfl⟩, ?_⟩
                refine OpH.stW ty24 (.t rfl) (.t rfl) (.s (.s .z)) ?_
                refine ⟨⟨([], fun k => List.getD [(true, .none_), (true, .none_), _] k (true, .none_)), rfl⟩, ?_⟩
                show wpB _ _ _ _ _ [] ((4, _) :: (3, _) :: (61, _) :: (60, _) :: (59, _) :: (58, _) :: (57, _) :: _) _
                refine .q 2 hG ?_ -- @ predicate.Decode s s
                refine ⟨_, .r3 rfl (.cell ty24 rfl (.s (.s .z))) (.tmp rfl) (.tmp rfl), ?_⟩
                dsimp only at *
                first | (exfalso; omega) | (rw [decF_1 hc17]; done) | (rw [decF_6 hc17 (by omega)]; done) | (rw [decF_e hc17 (by omega) (decB_m (by omega)) hc56]; done) | (rw [decF_e hc17 (by omega) (decB_t (by omega)) hc56]; done) | (rw [decF_e hc17 (by omega) (decB_n (by omega)) hc56]; done) | (rw [decF_e hc17 (by omega) (decB_r (by omega)) hc56]; done) | (rw [decF_5 hc17 (by omega) (decB_m (by omega)) hc56 hc64]; done) | (rw [decF_5 hc17 (by omega) (decB_t (by omega)) hc56 hc64]; done) | (rw [decF_5 hc17 (by omega) (decB_n (by omega)) hc56 hc64]; done) | (rw [decF_5 hc17 (by omega) (decB_r (by omega)) hc56 hc64]; done) | (rw [decF_0 hc17 (by omega) (decB_m (by omega)) hc56 hc64]; done) | (rw [decF_0 hc17 (by omega) (decB_t (by omega)) hc56 hc64]; done) | (rw [decF_0 hc17 (by omega) (decB_n (by omega)) hc56 hc64]; done) | (rw [decF_0 hc17 (by omega) (decB_r (by omega)) hc56 hc64]; done)
              · refine .q 5 hG ?_ -- @ predicate.Decode s s s s 20.0
                refine .k hG (predValid_c _) ?_ -- @ predicate.Decode 20.1
                refine .q 2 hG ?_ -- @ predicate.Decode 20.2 s
                refine .cond (.t rfl) (fun hc64 => ?_) (fun hc64 => ?_)
                · refine .q 2 hG ?_ -- @ predicate.Decode s s
                  refine .p (.bS0 (α := G_api_Predicate) rfl ty24 fo24 ?_)
                  refine .q 5 hG ?_ -- @ predicate.Decode 21.1 21.2 21.3 s s
                  refine ⟨_, .r3 rfl (.cell ty24 rfl (.s (.s .z))) (.tmp rfl) (.tmp rfl), ?_⟩
                  dsimp only at *
                  first | (exfalso; omega) | (rw [decF_1 hc17]; done) | (rw [decF_6 hc17 (by omega)]; done) | (rw [decF_e hc17 (by omega) (decB_m (by omega)) hc56]; done) | (rw [decF_e hc17 (by omega) (decB_t (by omega)) hc56]; done) | (rw [decF_e hc17 (by omega) (decB_n (by omega)) hc56]; done) | (rw [decF_e hc17 (by omega) (decB_r (by omega)) hc56]; done) | (rw [decF_5 hc17 (by omega) (decB_m (by omega)) hc56 hc64]; done) | (rw [decF_5 hc17 (by omega) (decB_t (by omega)) hc56 hc64]; done) | (rw [decF_5 hc17 (by omega) (decB_n (by omega)) hc56 hc64]; done) | (rw [decF_5 hc17 (by omega) (decB_r (by omega)) hc56 hc64]; done) | (rw [decF_0 hc17 (by omega) (decB_m (by omega)) hc56 hc64]; done) | (rw [decF_0 hc17 (by omega) (decB_t (by omega)) hc56 hc64]; done) | (rw [decF_0 hc17 (by omega) (decB_n (by omega)) hc56 hc64]; done) | (rw [decF_0 hc17 (by omega) (decB_r (by omega)) hc56 hc64]; done)
                · refine .q 2 hG ?_ -- @ predicate.Decode s s
                  refine .drawCF [false, false, true] (by kernel_rfl) 8 [[], [], [(67, 1)], [(68, 2)], [(69, 3)], [(66, 0)], [(70, 4)], []] [5] rfl (by kernel_rfl) rfl (by kernel_rfl) (by decide) ?_
                  refine ⟨_, fun H => OpP.ldW ty24 (.t rfl) (Hole.app .z) rfl, ?_⟩
                  refine ⟨_, fun H => OpP.move (.t rfl) rfl, ?_⟩
                  refine ⟨_, fun H => OpP.nilCheckL (.t rfl) rfl, ?_⟩
                  refine ⟨_, fun H => OpP.fldW G_predicate_reader.l1 fd54_1 rfl (.t rfl) rfl, ?_⟩
                  refine ⟨_, fun H => OpP.ldF (fun x => x.used) ty3 (.t rfl) (Hole.app (.s .z)) (fun _ => rfl) rfl, ?_⟩
                  refine .inl ?_
                  refine ⟨_, fun H => OpP.assign (.t rfl) rfl, ?_⟩
                  refine ⟨_, fun H => OpP.assign (.i rfl) rfl, ?_⟩
                  refine ⟨⟨([], fun k => List.getD [(true, .none_), (true, .none_), _] k (true, .none_)), rfl⟩, ?_⟩
                  refine OpH.stW ty24 (.t rfl) (.t rfl) (.s (.s .z)) ?_
                  refine ⟨⟨([], fun k => List.getD [(true, .none_), (true, .none_), _] k (true, .none_)), rfl⟩, ?_⟩
                  show wpB _ _ _ _ _ [] ((4, _) :: (3, _) :: (70, _) :: (69, _) :: (68, _) :: (67, _) :: (66, _) :: _) _
                  refine .q 2 hG ?_ -- @ predicate.Decode s s
                  refine ⟨_, .r3 rfl (.cell ty24 rfl (.s (.s .z))) (.tmp rfl) (.tmp rfl), ?_⟩
                  dsimp only at *
                  first | (exfalso; omega) | (rw [decF_1 hc17]; done) | (rw [decF_6 hc17 (by omega)]; done) | (rw [decF_e hc17 (by omega) (decB_m (by omega)) hc56]; done) | (rw [decF_e hc17 (by omega) (decB_t (by omega)) hc56]; done) | (rw [decF_e hc17 (by omega) (decB_n (by omega)) hc56]; done) | (rw [decF_e hc17 (by omega) (decB_r (by omega)) hc56]; done) | (rw [decF_5 hc17 (by omega) (decB_m (by omega)) hc56 hc64]; done) | (rw [decF_5 hc17 (by omega) (decB_t (by omega)) hc56 hc64]; done) | (rw [decF_5 hc17 (by omega) (decB_n (by omega)) hc56 hc64]; done) | (rw [decF_5 hc17 (by omega) (decB_r (by omega)) hc56 hc64]; done) | (rw [decF_0 hc17 (by omega) (decB_m (by omega)) hc56 hc64]; done) | (rw [decF_0 hc17 (by omega) (decB_t (by omega)) hc56 hc64]; done) | (rw [decF_0 hc17 (by omega) (decB_n (by omega)) hc56 hc64]; done) | (rw [decF_0 hc17 (by omega) (decB_r (by omega)) hc56 hc64]; done)
            · refine .q 6 hG ⟨fun hc42 => ?_, fun hc42 => ?_⟩ -- @ predicate.Decode s s 14.0 14.1 s c42
              · refine .q 2 hG ?_ -- @ predicate.Decode s 15.0
                refine .km hG (prName_c _ _ ok1) (.s .z) (by rintro _ _ ⟨_, rfl⟩; exact ⟨_, rfl⟩) fun r45 B45 hr45 => ?_ -- @ predicate.Decode 15.1
                obtain ⟨rfl, hB⟩ := hr45
                cases hB
                refine .q 13 hG ⟨fun hc56 => ?_, fun hc56 => ?_⟩ -- @ predicate.Decode 15.2 15.3 s s s s 18.0 18.1 18.2 18.3 18.4 s c56
                · refine .q 1 hG ?_ -- @ predicate.Decode s
                  refine .drawCF [false, false, true] (by kernel_rfl) 8 [[], [], [(58, 1)], [(59, 2)], [(60, 3)], [(57, 0)], [], [(61, 4)]] [5] rfl (by kernel_rfl) rfl (by kernel_rfl) (by decide) ?_
                  refine ⟨_, fun H => OpP.bS0 (α := G_api_Predicate) rfl ty24 fo24 rfl, ?_⟩
                  refine ⟨_, fun H => OpP.move (.t rfl) rfl, ?_⟩
                  refine ⟨_, fun H => OpP.nilCheckL (.t rfl) rfl, ?_⟩
                  refine ⟨_, fun H => OpP.fldW G_predicate_reader.l2 fd54_2 rfl (.t rfl) rfl, ?_⟩
                  refine ⟨_, fun H => OpP.ldF (fun x => x.e) ty27 (.t rfl) (Hole.app (.s .z)) (fun _ => rfl) rfl, ?_⟩
                  refine .inl ?_
                  refine ⟨_, fun H => OpP.assign (.i rfl) rfl, ?_⟩
                  refine ⟨_, fun H => OpP.assign (.t rfl) rfl, ?_⟩
                  refine ⟨⟨([], fun k => List.getD [(true, .none_), (true, .none_), _] k (true, .none_)), rfl⟩, ?_⟩
                  refine OpH.stW ty24 (.t rfl) (.t rfl) (.s (.s .z)) ?_
                  refine ⟨⟨([], fun k => List.getD [(true, .none_), (true, .none_), _] k (true, .none_)), rfl⟩, ?_⟩
                  show wpB _ _ _ _ _ [] ((4, _) :: (3, _) :: (61, _) :: (60, _) :: (59, _) :: (58, _) :: (57, _) :: _) _
                  refine .q 2 hG ?_ -- @ predicate.Decode s s
                  refine ⟨_, .r3 rfl (.cell ty24 rfl (.s (.s .z))) (.tmp rfl) (.tmp rfl), ?_⟩
                  dsimp only at *
                  first | (exfalso; omega) | (rw [decF_1 hc17]; done) | (rw [decF_6 hc17 (by omega)]; done) | (rw [decF_e hc17 (by omega) (decB_m (by omega)) hc56]; done) | (rw [decF_e hc17 (by omega) (decB_t (by omega)) hc56]; done) | (rw [decF_e hc17 (by omega) (decB_n (by omega)) hc56]; done) | (rw [decF_e hc17 (by omega) (decB_r (by omega)) hc56]; done) | (rw [decF_5 hc17 (by omega) (decB_m (by omega)) hc56 hc64]; done) | (rw [decF_5 hc17 (by omega) (decB_t (by omega)) hc56 hc64]; done) | (rw [decF_5 hc17 (by omega) (decB_n (by omega)) hc56 hc64]; done) | (rw [decF_5 hc17 (by omega) (decB_r (by omega)) hc56 hc64]; done) | (rw [decF_0 hc17 (by omega) (decB_m (by omega)) hc56 hc64]; done) | (rw [decF_0 hc17 (by omega) (decB_t (by omega)) hc56 hc64]; done) | (rw [decF_0 hc17 (by omega) (decB_n (by omega)) hc56 hc64]; done) | (rw [decF_0 hc17 (by omega) (decB_r (by omega)) hc56 hc64]; done)
                · refine .q 5 hG ?_ -- @ predicate.Decode s s s s 20.0
                  refine .k hG (predValid_c _) ?_ -- @ predicate.Decode 20.1
                  refine .q 2 hG ?_ -- @ predicate.Decode 20.2 s
                  refine .cond (.t rfl) (fun hc64 => ?_) (fun hc64 => ?_)
                  · refine .q 2 hG ?_ -- @ predicate.Decode s s
                    refine .p (.bS0 (α := G_api_Predicate) rfl ty24 fo24 ?_)
                    refine .q 5 hG ?_ -- @ predicate.Decode 21.1 21.2 21.3 s s
                    refine ⟨_, .r3 rfl (.cell ty24 rfl (.s (.s .z))) (.tmp rfl) (.tmp rfl), ?_⟩
                    dsimp only at *
                    first | (exfalso; omega) | (rw [decF_1 hc17]; done) | (rw [decF_6 hc17 (by omega)]; done) | (rw [decF_e hc17 (by omega) (decB_m (by omega)) hc56]; done) | (rw [decF_e hc17 (by omega) (decB_t (by omega)) hc56]; done) | (rw [decF_e hc17 (by omega) (decB_n (by omega)) hc56]; done) | (rw [decF_e hc17 (by omega) (decB_r (by omega)) hc56]; done) | (rw [decF_5 hc17 (by omega) (decB_m (by omega)) hc56 hc64]; done) | (rw [decF_5 hc17 (by omega) (decB_t (by omega)) hc56 hc64]; done) | (rw [decF_5 hc17 (by omega) (decB_n (by omega)) hc56 hc64]; done) | (rw [decF_5 hc17 (by omega) (decB_r (by omega)) hc56 hc64]; done) | (rw [decF_0 hc17 (by omega) (decB_m (by omega)) hc56 hc64]; done) | (rw [decF_0 hc17 (by omega) (decB_t (by omega)) hc56 hc64]; done) | (rw [decF_0 hc17 (by omega) (decB_n (by omega)) hc56 hc64]; done) | (rw [decF_0 hc17 (by omega) (decB_r (by omega)) hc56 hc64]; done)
                  · refine .q 2 hG ?_ -- @ predicate.Decode s s
                    refine .drawCF [false, false, true] (by kernel_rfl) 8 [[], [], [(67, 1)], [(68, 2)], [(69, 3)], [(66, 0)], [(70, 4)], []] [5] rfl (by kernel_rfl) rfl (by kernel_rfl) (by decide) ?_
                    refine ⟨_, fun H => OpP.ldW ty24 (.t rfl) (Hole.app .z) rfl, ?_⟩
                    refine ⟨_, fun H => OpP.move (.t rfl) rfl, ?_⟩
                    refine ⟨_, fun H => OpP.nilCheckL (.t rfl) rfl, ?_⟩
                    refine ⟨_, fun H => OpP.fldW G_predicate_reader.l1 fd54_1 rfl (.t rfl) rfl, ?_⟩
                    refine ⟨_, fun H => OpP.ldF (fun x => x.used) ty3 (.t rfl) (Hole.app (.s .z)) (fun _ => rfl) rfl, ?_⟩
                    refine .inl ?_
                    refine ⟨_, fun H => OpP.assign (.t rfl) rfl, ?_⟩
                    refine ⟨_, fun H => OpP.assign (.i rfl) rfl, ?_⟩
                    refine ⟨⟨([], fun k => List.getD [(true, .none_), (true, .none_), _] k (true, .none_)), rfl⟩, ?_⟩
                    refine OpH.stW ty24 (.t rfl) (.t rfl) (.s (.s .z)) ?_
                    refine ⟨⟨([], fun k => List.getD [(true, .none_), (true, .none_), _] k (true, .none_)), rfl⟩, ?_⟩
                    show wpB _ _ _ _ _ [] ((4, _) :: (3, _) :: (70, _) :: (69, _) :: (68, _) :: (67, _) :: (66, _) :: _) _
                    refine .q 2 hG ?_ -- @ predicate.Decode s s
                    refine ⟨_, .r3 rfl (.cell ty24 rfl (.s (.s .z))) (.tmp rfl) (.tmp rfl), ?_⟩
                    dsimp only at *
                    first | (exfalso; omega) | (rw [decF_1 hc17]; done) | (rw [decF_6 hc17 (by omega)]; done) | (rw [decF_e hc17 (by omega) (decB_m (by omega)) hc56]; done) | (rw [decF_e hc17 (by omega) (decB_t (by omega)) hc56]; done) | (rw [decF_e hc17 (by omega) (decB_n (by omega)) hc56]; done) | (rw [decF_e hc17 (by omega) (decB_r (by omega)) hc56]; done) | (rw [decF_5 hc17 (by omega) (decB_m (by omega)) hc56 hc64]; done) | (rw [decF_5 hc17 (by omega) (decB_t (by omega)) hc56 hc64]; done) | (rw [decF_5 hc17 (by omega) (decB_n (by omega)) hc56 hc64]; done) | (rw [decF_5 hc17 (by omega) (decB_r (by omega)) hc56 hc64]; done) | (rw [decF_0 hc17 (by omega) (decB_m (by omega)) hc56 hc64]; done) | (rw [decF_0 hc17 (by omega) (decB_t (by omega)) hc56 hc64]; done) | (rw [decF_0 hc17 (by omega) (decB_n (by omega)) hc56 hc64]; done) | (rw [decF_0 hc17 (by omega) (decB_r (by omega)) hc56 hc64]; done)
              · refine .q 6 hG ⟨fun hc47 => ?_, fun hc47 => ?_⟩ -- @ predicate.Decode s s 16.0 16.1 s c47
                · refine .q 2 hG ?_ -- @ predicate.Decode s 17.0
                  refine .km hG (prNum_c _ _ (by first | assumption | exact prNum_ok ok1)) (.s .z) (by rintro _ _ ⟨_, rfl⟩; exact ⟨_, rfl⟩) fun r50 B50 hr50 => ?_ -- @ predicate.Decode 17.1
                  obtain ⟨rfl, hB⟩ := hr50
                  cases hB
                  refine .q 13 hG ⟨fun hc56 => ?_, fun hc56 => ?_⟩ -- @ predicate.Decode 17.2 17.3 s s s s 18.0 18.1 18.2 18.3 18.4 s c56
                  · refine .q 1 hG ?_ -- @ predicate.Decode s
                    refine .drawCF [false, false, true] (by kernel_rfl) 8 [[], [], [(58, 1)], [(59, 2)], [(60, 3)], [(57, 0)], [], [(61, 4)]] [5] rfl (by kernel_rfl) rfl (by kernel_rfl) (by decide) ?_
                    refine ⟨_, fun H => OpP.bS0 (α := G_api_Predicate) rfl ty24 fo24 rfl, ?_⟩
                    refine ⟨_, fun H => OpP.move (.t rfl) rfl, ?_⟩
                    refine ⟨_, fun H => OpP.nilCheckL (.t rfl) rfl, ?_⟩
                    refine ⟨_, fun H => OpP.fldW G_predicate_reader.l2 fd54_2 rfl (.t rfl) rfl, ?_⟩
                    refine ⟨_, fun H => OpP.ldF (fun x => x.e) ty27 (.t rfl) (Hole.app (.s .z)) (fun _ => rfl) rfl, ?_⟩
                    refine .inl ?_
                    refine ⟨_, fun H => OpP.assign (.i rfl) rfl, ?_⟩
                    refine ⟨_, fun H => OpP.assign (.t rfl) rfl, ?_⟩
                    refine ⟨⟨([], fun k => List.getD [(true, .none_), (true, .none_), _] k (true, .none_)), rfl⟩, ?_⟩
                    refine OpH.stW ty24 (.t rfl) (.t rfl) (.s (.s .z)) ?_
                    refine ⟨⟨([], fun k => List.getD [(true, .none_), (true, .none_), _] k (true, .none_)), rfl⟩, ?_⟩
                    show wpB _ _ _ _ _ [] ((4, _) :: (3, _) :: (61, _) :: (60, _) :: (59, _) :: (58, _) :: (57, _) :: _) _
                    refine .q 2 hG ?_ -- @ predicate.Decode s s
                    refine ⟨_, .r3 rfl (.cell ty24 rfl (.s (.s .z))) (.tmp rfl) (.tmp rfl), ?_⟩
                    dsimp only at *
                    first | (exfalso; omega) | (rw [decF_1 hc17]; done) | (rw [decF_6 hc17 (by omega)]; done) | (rw [decF_e hc17 (by omega) (decB_m (by omega)) hc56]; done) | (rw [decF_e hc17 (by omega) (decB_t (by omega)) hc56]; done) | (rw [decF_e hc17 (by omega) (decB_n (by omega)) hc56]; done) | (rw [decF_e hc17 (by omega) (decB_r (by omega)) hc56]; done) | (rw [decF_5 hc17 (by omega) (decB_m (by omega)) hc56 hc64]; done) | (rw [decF_5 hc17 (by omega) (decB_t (by omega)) hc56 hc64]; done) | (rw [decF_5 hc17 (by omega) (decB_n (by omega)) hc56 hc64]; done) | (rw [decF_5 hc17 (by omega) (decB_r (by omega)) hc56 hc64]; done) | (rw [decF_0 hc17 (by omega) (decB_m (by omega)) hc56 hc64]; done) | (rw [decF_0 hc17 (by omega) (decB_t (by omega)) hc56 hc64]; done) | (rw [decF_0 hc17 (by omega) (decB_n (by omega)) hc56 hc64]; done) | (rw [decF_0 hc17 (by omega) (decB_r (by omega)) hc56 hc64]; done)
                  · refine .q 5 hG ?_ -- @ predicate.Decode s s s s 20.0
                    refine .k hG (predValid_c _) ?_ -- @ predicate.Decode 20.1
                    refine .q 2 hG ?_ -- @ predicate.Decode 20.2 s
                    refine .cond (.t rfl) (fun hc64 => ?_) (fun hc64 => ?_)
                    · refine .q 2 hG ?_ -- @ predicate.Decode s s
                      refine .p (.bS0 (α := G_api_Predicate) rfl ty24 fo24 ?_)
                      refine .q 5 hG ?_ -- @ predicate.Decode 21.1 21.2 21.3 s s
                      refine ⟨_, .r3 rfl (.cell ty24 rfl (.s (.s .z))) (.tmp rfl) (.tmp rfl), ?_⟩
                      dsimp only at *
                      first | (exfalso; omega) | (rw [decF_1 hc17]; done) | (rw [decF_6 hc17 (by omega)]; done) | (rw [decF_e hc17 (by omega) (decB_m (by omega)) hc56]; done) | (rw [decF_e hc17 (by omega) (decB_t (by omega)) hc56]; done) | (rw [decF_e hc17 (by omega) (decB_n (by omega)) hc56]; done) | (rw [decF_e hc17 (by omega) (decB_r (by omega)) hc56]; done) | (rw [decF_5 hc17 (by omega) (decB_m (by omega)) hc56 hc64]; done) | (rw [decF_5 hc17 (by omega) (decB_t (by omega)) hc56 hc64]; done) | (rw [decF_5 hc17 (by omega) (decB_n (by omega)) hc56 hc64]; done) | (rw [decF_5 hc17 (by omega) (decB_r (by omega)) hc56 hc64]; done) | (rw [decF_0 hc17 (by omega) (decB_m (by omega)) hc56 hc64]; done) | (rw [decF_0 hc17 (by omega) (decB_t (by omega)) hc56 hc64]; done) | (rw [decF_0 hc17 (by omega) (decB_n (by omega)) hc56 hc64]; done) | (rw [decF_0 hc17 (by omega) (decB_r (by omega)) hc56 hc64]; done)
                    · refine .q 2 hG ?_ -- @ predicate.Decode s s
                      refine .drawCF [false, false, true] (by kernel_rfl) 8 [[], [], [(67, 1)], [(68, 2)], [(69, 3)], [(66, 0)], [(70, 4)], []] [5] rfl (by kernel_rfl) rfl (by kernel_rfl) (by decide) ?_
                      refine ⟨_, fun H => OpP.ldW ty24 (.t rfl) (Hole.app .z) rfl, ?_⟩
                      refine ⟨_, fun H => OpP.move (.t rfl) rfl, ?_⟩
                      refine ⟨_, fun H => OpP.nilCheckL (.t rfl) rfl, ?_⟩
                      refine ⟨_, fun H => OpP.fldW G_predicate_reader.l1 fd54_1 rfl (.t rfl) rfl, ?_⟩
                      refine ⟨_, fun H => OpP.ldF (fun x => x.used) ty3 (.t rfl) (Hole.app (.s .z)) (fun _ => rfl) rfl, ?_⟩
                      refine .inl ?_
                      refine ⟨_, fun H => OpP.assign (.t rfl) rfl, ?_⟩
                      refine ⟨_, fun H => OpP.assign (.i rfl) rfl, ?_⟩
                      refine ⟨⟨([], fun k => List.getD [(true, .none_), (true, .none_), _] k (true, .none_)), rfl⟩, ?_⟩
                      refine OpH.stW ty24 (.t rfl) (.t rfl) (.s (.s .z)) ?_
                      refine ⟨⟨([], fun k => List.getD [(true, .none_), (true, .none_), _] k (true, .none_)), rfl⟩, ?_⟩
                      show wpB _ _ _ _ _ [] ((4, _) :: (3, _) :: (70, _) :: (69, _) :: (68, _) :: (67, _) :: (66, _) :: _) _
                      refine .q 2 hG ?_ -- @ predicate.Decode s s
                      refine ⟨_, .r3 rfl (.cell ty24 rfl (.s (.s .z))) (.tmp rfl) (.tmp rfl), ?_⟩
                      dsimp only at *
                      first | (exfalso; omega) | (rw [decF_1 hc17]; done) | (rw [decF_6 hc17 (by omega)]; done) | (rw [decF_e hc17 (by omega) (decB_m (by omega)) hc56]; done) | (rw [decF_e hc17 (by omega) (decB_t (by omega)) hc56]; done) | (rw [decF_e hc17 (by omega) (decB_n (by omega)) hc56]; done) | (rw [decF_e hc17 (by omega) (decB_r (by omega)) hc56]; done) | (rw [decF_5 hc17 (by omega) (decB_m (by omega)) hc56 hc64]; done) | (rw [decF_5 hc17 (by omega) (decB_t (by omega)) hc56 hc64]; done) | (rw [decF_5 hc17 (by omega) (decB_n (by omega)) hc56 hc64]; done) | (rw [decF_5 hc17 (by omega) (decB_r (by omega)) hc56 hc64]; done) | (rw [decF_0 hc17 (by omega) (decB_m (by omega)) hc56 hc64]; done) | (rw [decF_0 hc17 (by omega) (decB_t (by omega)) hc56 hc64]; done) | (rw [decF_0 hc17 (by omega) (decB_n (by omega)) hc56 hc64]; done) | (rw [decF_0 hc17 (by omega) (decB_r (by omega)) hc56 hc64]; done)
                · refine .q 2 hG ?_ -- @ predicate.Decode s s
                  refine .p (.bS0 (α := G_api_Predicate) rfl ty24 fo24 ?_)
                  refine .q 5 hG ?_ -- @ predicate.Decode 6.1 6.2 6.3 s s
                  refine ⟨_, .r3 rfl (.cell ty24 rfl (.s (.s .z))) (.tmp rfl) (.tmp rfl), ?_⟩
                  dsimp only at *
                  first | (exfalso; omega) | (rw [decF_1 hc17]; done) | (rw [decF_6 hc17 (by omega)]; done) | (rw [decF_e hc17 (by omega) (decB_m (by omega)) hc56]; done) | (rw [decF_e hc17 (by omega) (decB_t (by omega)) hc56]; done) | (rw [decF_e hc17 (by omega) (decB_n (by omega)) hc56]; done) | (rw [decF_e hc17 (by omega) (decB_r (by omega)) hc56]; done) | (rw [decF_5 hc17 (by omega) (decB_m (by omega)) hc56 hc64]; done) | (rw [decF_5 hc17 (by omega) (decB_t (by omega)) hc56 hc64]; done) | (rw [decF_5 hc17 (by omega) (decB_n (by omega)) hc56 hc64]; done) | (rw [decF_5 hc17 (by omega) (decB_r (by omega)) hc56 hc64]; done) | (rw [decF_0 hc17 (by omega) (decB_m (by omega)) hc56 hc64]; done) | (rw [decF_0 hc17 (by omega) (decB_t (by omega)) hc56 hc64]; done) | (rw [decF_0 hc17 (by omega) (decB_n (by omega)) hc56 hc64]; done) | (rw [decF_0 hc17 (by omega) (decB_r (by omega)) hc56 hc64]; done)
end Go.Proofs.YtpkdbddhekffgaaGreatDoor
set_option synthInstance.maxSize 1000000
set_option synthInstance.maxHeartbeats 10000000
set_option linter.unusedVariables false
set_option linter.unusedSimpArgs false
set_option maxRecDepth 1000000
namespace Go.Proofs.YtpkdbddhekffgaaGreatDoor
open Go.Fl Go.Ab Go.Mac Go.Sha Go.Lib
theorem predBytes_pos (p : Pred) : 0 < (predBytes p).length := by
  have := numL_pos p.Kind.toNat
  unfold predBytes; rw [List.length_append]; omega
end Go.Proofs.YtpkdbddhekffgaaGreatDoor
set_option synthInstance.maxSize 1000000
set_option synthInstance.maxHeartbeats 10000000
set_option linter.unusedVariables false
set_option linter.unusedSimpArgs false
set_option maxRecDepth 1000000
namespace Go.Proofs.YtpkdbddhekffgaaGreatDoor
open Go.Fl Go.Ab Go.Mac Go.Sha
def rdr (r : PRd) : Rdr := ⟨r.b, r.used, r.e⟩
theorem rdr_ok {r : PRd} (h : PROk r) : RdOk (rdr r) := h
theorem rdNum_eq (r : PRd) : rdNum (rdr r) = ((prNum r).1, rdr (prNum r).2) := by
  unfold rdNum prNum
  by_cases h : r.e = 0
  · rw [if_neg (show ¬ (rdr r).E ≠ 0 from fun c => c h), if_neg (fun c => c h)]
    have e : (rdFail (rdr r) (readF ((rdr r).B.drop (rdr r).Used.toNat)).2.2).E = (readF (r.b.drop r.used.toNat)).2.2 := by
      unfold rdFail; rw [if_pos (show (rdr r).E = 0 from h)]; rfl
    rw [e]; rfl
  · rw [if_pos (show (rdr r).E ≠ 0 from h), if_pos h]
theorem rNum_c (w : Value) (r : PRd) (h : PROk r) : FunH gl Tryz.prog 29 [rd w] [.ob w (rdr r)] (fun x Hs => x = .v (prNum r).1 ∧ Hs = [.ob w (rdr (prNum r).2)]) := by
  have := Number_rd w (rdr r) (rdr_ok h)
  rw [rdNum_eq] at this; exact this
theorem rFieldRd_c (b : List UInt8) (hb : b.length ≤ 1000000) : FunA gl Tryz.prog 41 [.v b] (fun r => r = .t3 (.v (fieldF b).1) (.v (fieldF b).2.1) (.v (fieldF b).2.2)) := by
  have hu := readF_used b
  refine FunA.intro Tryz.func41 rfl (by kernel_rfl) 34 rfl rfl _ rfl fun C hC hG => ?_
  refine .q 9 hG ?_ -- @ macaroonref01.ReadField s s 0.0 0.1 0.2 s s s 1.0
  refine .k hG (rRead_c _) ?_ -- @ macaroonref01.ReadField 1.1
  refine .q 15 hG ⟨fun hc15 => ?_, fun hc15 => ?_⟩ -- @ macaroonref01.ReadField 1.2 1.3 1.4 1.5 1.6 1.7 1.8 s s s s 2.0 2.1 s c15
  · refine .q 8 hG ?_ -- @ macaroonref01.ReadField s s 3.0 3.1 3.2 3.3 s s
    refine ⟨_, .r3 rfl (.tmp rfl) (.tmp rfl) (.tmp rfl), ?_⟩
    have e : fieldF b = ([], 0, (readF b).2.2) := if_pos hc15
    rw [e]
  · refine .q 8 hG ⟨fun hc18 => ?_, fun hc18 => ?_⟩ -- @ macaroonref01.ReadField s s s s 4.0 4.1 s c18
    · refine .q 7 hG ?_ -- @ macaroonref01.ReadField s s 5.0 5.1 5.2 s s
      refine ⟨_, .r3 rfl (.tmp rfl) (.tmp rfl) (.tmp rfl), ?_⟩
      have e : fieldF b = ([], 0, 2) := (by unfold fieldF; rw [if_neg hc15, if_pos hc18])
      rw [e]
    · refine .q 3 hG ?_ -- @ macaroonref01.ReadField s s s
      have hn0 : 0 ≤ (readF b).1 := (readF_ok (b := b) (v := (readF b).1) (k := (readF b).2.1) (by rw [← Decidable.not_not.1 hc15])).1
      refine .q 5 hG ?_ -- @ macaroonref01.ReadField s 6.0 6.1 6.2 6.3
      refine .sb (by first | omega | (simp; done) | (simp; omega) | (simp at *; omega)) (by first | omega | (simp; done) | (simp; omega) | (simp at *; omega)) ?_ -- @ macaroonref01.ReadField 6.4
      refine .q 3 hG ⟨fun hc24 => ?_, fun hc24 => ?_⟩ -- @ macaroonref01.ReadField 6.5 s c24
      · refine .q 7 hG ?_ -- @ macaroonref01.ReadField s s 7.0 7.1 7.2 s s
        refine ⟨_, .r3 rfl (.tmp rfl) (.tmp rfl) (.tmp rfl), ?_⟩
        have e : fieldF b = ([], 0, 3) := (by unfold fieldF; rw [if_neg hc15, if_neg hc18, if_pos hc24])
        rw [e]
      · refine .q 7 hG ?_ -- @ macaroonref01.ReadField s s s 8.0 8.1 8.2 8.3
        refine .ad (by first | omega | (simp; done) | (simp; omega) | (simp at *; omega)) (by first | omega | (simp; done) | (simp; omega) | (simp at *; omega)) (.p (.slLH ty5 Tryz.underlying25 (.t rfl) (.t rfl) (.t rfl) (by first | omega | (simp; done) | (simp; omega) | (simp at *; omega)) (by first | omega | (simp; done) | (simp; omega) | (simp at *; omega)) (by first | omega | (simp; done) | (simp; omega) | (simp at *; omega)) ?_)) -- @ macaroonref01.ReadField 8.4
        refine .q 2 hG ?_ -- @ macaroonref01.ReadField 8.6 8.7
        refine .ad (by first | omega | (simp; done) | (simp; omega) | (simp at *; omega)) (by first | omega | (simp; done) | (simp; omega) | (simp at *; omega)) ?_ -- @ macaroonref01.ReadField 8.8
        refine .q 5 hG ?_ -- @ macaroonref01.ReadField 8.9 8.10 8.11 s s
        refine ⟨_, .r3 rfl (.tmp rfl) (.tmp rfl) (.tmp rfl), ?_⟩
        have e : fieldF b = ((b.take ((readF b).2.1 + (readF b).1).toNat).drop (readF b).2.1.toNat, (readF b).2.1 + (readF b).1, 0) := (by unfold fieldF; rw [if_neg hc15, if_neg hc18, if_neg hc24])
        rw [e]
def prd (r : Rdr) : PRd := ⟨r.B, r.Used, r.E⟩
theorem rBytes8_rd (w : Value) (r : Rdr) (h : RdOk r) (he : r.E = 0) : FunH gl Tryz.prog 30 [rd w, .v (8 : Int)] [.ob w r] (fun x Hs => ∃ l : List UInt8, l.length = 8 ∧ readN l 8 = (prMask (prd r)).1 ∧ x = .v l ∧ Hs = [.ob w (rdr (prMask (prd r)).2)]) := by
  obtain ⟨h0, h1, h2⟩ := h
  refine FunH.introS Tryz.func30 rfl (by kernel_rfl) 58 rfl rfl _ rfl _ rfl fun C hC hG => ?_
  refine .q 6 hG ?_ -- @ macaroonref06.Reader).Bytes s s 0.0 s s s
  refine .draw (by kernel_rfl) 19 [[], [(5, 0)], [(6, 1)], [(7, 2)], [(8, 3)], [(9, 4)], [], [(11, 6)], [(12, 7)], [(13, 8)], [(14, 9)], [], [(16, 11)], [(17, 12)], [(18, 13)], [(15, 10), (19, 14)], [], [(20, 15), (21, 16)], [(10, 5), (22, 17)]] rfl (by kernel_rfl) rfl ?_
  refine ⟨_, OpP.move (.t rfl) rfl, ?_⟩
  refine ⟨_, OpP.nilCheckL (.t rfl) rfl, ?_⟩
  refine ⟨_, OpP.fldW G_macaroonref06_Reader.l2 fd58_2 rfl (.t rfl) rfl, ?_⟩
  refine ⟨_, OpP.ldF (fun x => x.E) ty27 (.t rfl) .z (fun _ => rfl) rfl, ?_⟩
  refine ⟨_, OpP.eqlI (.t rfl) (.i rfl) rfl, ?_⟩
  refine ⟨_, OpP.move (.t rfl) rfl, ?_⟩
  refine ⟨_, ⟨_, _, rfl, rfl, fun hg11 => OpP.move (.t rfl) rfl⟩, ?_⟩
  refine ⟨_, ⟨_, _, rfl, rfl, fun hg12 => OpP.nilCheckL (.o rfl (beq_iff_eq.2 hg12)) rfl⟩, ?_⟩
  refine ⟨_, ⟨_, _, rfl, rfl, fun hg13 => OpP.fldW G_macaroonref06_Reader.l0 fd58_0 rfl (.o rfl (beq_iff_eq.2 hg13)) rfl⟩, ?_⟩
  refine ⟨_, ⟨_, _, rfl, rfl, fun hg14 => OpP.ldF (fun x => x.B) ty25 (.o rfl (beq_iff_eq.2 hg14)) .z (fun _ => rfl) rfl⟩, ?_⟩
  refine ⟨_, ⟨_, _, rfl, rfl, fun hg15 => OpP.len Tryz.underlying25 (.o rfl (beq_iff_eq.2 hg15)) rfl⟩, ?_⟩
  refine ⟨_, ⟨_, _, rfl, rfl, fun hg16 => OpP.move (.t rfl) rfl⟩, ?_⟩
  refine ⟨_, ⟨_, _, rfl, rfl, fun hg17 => OpP.nilCheckL (.o rfl (beq_iff_eq.2 hg17)) rfl⟩, ?_⟩
  refine ⟨_, ⟨_, _, rfl, rfl, fun hg18 => OpP.fldW G_macaroonref06_Reader.l1 fd58_1 rfl (.o rfl (beq_iff_eq.2 hg18)) rfl⟩, ?_⟩
  refine ⟨_, ⟨_, _, rfl, rfl, fun hg19 => OpP.ldF (fun x => x.Used) ty3 (.o rfl (beq_iff_eq.2 hg19)) .z (fun _ => rfl) rfl⟩, ?_⟩
  refine ⟨_, ⟨_, _, rfl, rfl, fun hg20 => OpP.sub (.o rfl (beq_iff_eq.2 hg20)) (.o rfl (beq_iff_eq.2 hg20)) (by first | omega | (simp; omega) | (have := hg20; simp at this; omega)) (by first | omega | (simp; omega) | (have := hg20; simp at this; omega)) rfl⟩, ?_⟩
  refine ⟨_, ⟨_, _, rfl, rfl, fun hg21 => OpP.move (.t rfl) rfl⟩, ?_⟩
  refine ⟨_, ⟨_, _, rfl, rfl, fun hg22 => OpP.lss (.o rfl (beq_iff_eq.2 hg22)) (.o rfl (beq_iff_eq.2 hg22)) rfl⟩, ?_⟩
  refine ⟨_, OpP.pickAnd (.t rfl) (fun hp => (.o rfl (beq_iff_eq.2 hp))) rfl, ?_⟩
  show wpB _ _ _ _ _ [] ((23, _) :: (22, _) :: (21, _) :: (20, _) :: (19, _) :: (18, _) :: (17, _) :: (16, _) :: (15, _) :: (14, _) :: (13, _) :: (12, _) :: (11, _) :: (10, _) :: (9, _) :: (8, _) :: (7, _) :: (6, _) :: (5, _) :: _) _
  refine .q 1 hG ?_ -- @ macaroonref06.Reader).Bytes s
  refine .cond (.t rfl) (fun hc23 => ?_) (fun hc23 => ?_)
  · refine .q 9 hG ?_ -- @ macaroonref06.Reader).Bytes s 2.0 2.1 2.2 2.3 s s s s
    refine .p (.move (.t rfl) (.p (.nilCheckL (.t rfl) (.p (.fldW G_macaroonref06_Reader.l2 fd58_2 rfl (.t rfl) (.p (.ldF (fun x => x.E) ty27 (.t rfl) .z (fun _ => rfl) (.p (.neqI (.t rfl) (.i rfl) ?_)))))))))
    refine .q 1 hG ?_ -- @ macaroonref06.Reader).Bytes s
    refine .condP (.t rfl) (fun hc31 => ?_) (fun hc31 => (by exfalso; exact hc31 (show (3 : Int) ≠ 0 by decide)))
    refine .q 1 hG ?_ -- @ macaroonref06.Reader).Bytes s
    have h8 : (r.B.length : Int) - r.Used < 8 := (by simpa [he] using hc23)
    refine .q 2 hG ?_ -- @ macaroonref06.Reader).Bytes s 4.0
    refine .h (.make st25 (.t rfl) (by first | omega | (simp; done) | (simp; omega) | (simp at *; omega)) (by first | omega | (simp; done) | (simp; omega) | (simp at *; omega)) (by first | omega | (simp; done) | (simp; omega) | (simp at *; omega)) fun b33 => ?_)
    refine .frzOwn hC .z ?_
    refine .as 33 rfl .z ?_
    refine .q 3 hG ?_ -- @ macaroonref06.Reader).Bytes 4.2 s s
    refine ⟨_, .r1 rfl (.tmp rfl), ?_⟩
    have e0 : prMask (prd r) = (0, ⟨r.B, r.Used, 3⟩) := if_pos h8
    refine ⟨_, .cons (.s .z) (.nil), ?_⟩
    rw [e0]; exact ⟨_, List.length_replicate, by rfl, rfl, rfl⟩
  · refine .q 4 hG ?_ -- @ macaroonref06.Reader).Bytes s s s s
    refine .p (.move (.t rfl) (.p (.nilCheckL (.t rfl) (.p (.fldW G_macaroonref06_Reader.l2 fd58_2 rfl (.t rfl) (.p (.ldF (fun x => x.E) ty27 (.t rfl) .z (fun _ => rfl) (.p (.neqI (.t rfl) (.i rfl) ?_)))))))))
    refine .q 1 hG ?_ -- @ macaroonref06.Reader).Bytes s
    refine .condP (.t rfl) (fun hc31 => (by exfalso; exact hc31 he)) (fun hc31 => ?_)
    refine .q 2 hG ?_ -- @ macaroonref06.Reader).Bytes s s
    have h8 : ¬ (r.B.length : Int) - r.Used < 8 := (by simpa [he] using hc23)
    have h4 : (r.Used + 8).toNat ≤ r.B.length := (by omega)
    refine .q 1 hG ?_ -- @ macaroonref06.Reader).Bytes s
    refine .p (.move (.t rfl) (.p (.move (.t rfl) (.p (.nilCheckL (.t rfl) (.p (.fldW G_macaroonref06_Reader.l1 fd58_1 rfl (.t rfl) (.p (.ldF (fun x => x.Used) ty3 (.t rfl) .z (fun _ => rfl) (.p (.move (.t rfl) ?_)))))))))))
    refine .p (.add (.t rfl) (.t rfl) (by first | omega | (simp; done) | (simp; omega) | (simp at *; omega)) (by first | omega | (simp; done) | (simp; omega) | (simp at *; omega)) (.p (.nilCheckL (.t rfl) (.p (.fldW G_macaroonref06_Reader.l1 fd58_1 rfl (.t rfl) (.n (.stF (fun y x => { x with Used := y }) ty3 (.t rfl) (.t rfl) .z (fun _ _ => rfl) ?_)))))))
    refine .q 2 hG ?_ -- @ macaroonref06.Reader).Bytes s s
    refine .draw (by kernel_rfl) 16 [[], [(43, 0)], [(44, 1)], [(45, 2)], [], [(47, 4)], [(48, 5)], [(49, 6)], [], [(50, 7), (51, 8)], [], [(53, 10)], [(54, 11)], [(55, 12)], [(46, 3), (52, 9), (56, 13)], [(57, 14)]] rfl (by kernel_rfl) rfl ?_
    refine ⟨_, OpP.move (.t rfl) rfl, ?_⟩
    refine ⟨_, OpP.nilCheckL (.t rfl) rfl, ?_⟩
    refine ⟨_, OpP.fldW G_macaroonref06_Reader.l0 fd58_0 rfl (.t rfl) rfl, ?_⟩
    refine ⟨_, OpP.ldF (fun x => x.B) ty25 (.t rfl) .z (fun _ => rfl) rfl, ?_⟩
    refine ⟨_, OpP.move (.t rfl) rfl, ?_⟩
    refine ⟨_, OpP.nilCheckL (.t rfl) rfl, ?_⟩
    refine ⟨_, OpP.fldW G_macaroonref06_Reader.l1 fd58_1 rfl (.t rfl) rfl, ?_⟩
    refine ⟨_, OpP.ldF (fun x => x.Used) ty3 (.t rfl) .z (fun _ => rfl) rfl, ?_⟩
    refine ⟨_, OpP.move (.t rfl) rfl, ?_⟩
    refine ⟨_, OpP.sub (.t rfl) (.t rfl) (by first | omega | (simp; done) | (simp; omega) | (simp at *; omega)) (by first | omega | (simp; done) | (simp; omega) | (simp at *; omega)) rfl, ?_⟩
    refine ⟨_, OpP.move (.t rfl) rfl, ?_⟩
    refine ⟨_, OpP.nilCheckL (.t rfl) rfl, ?_⟩
    refine ⟨_, OpP.fldW G_macaroonref06_Reader.l1 fd58_1 rfl (.t rfl) rfl, ?_⟩
    refine ⟨_, OpP.ldF (fun x => x.Used) ty3 (.t rfl) .z (fun _ => rfl) rfl, ?_⟩
    refine ⟨_, OpP.slLH ty5 Tryz.underlying25 (.t rfl) (.t rfl) (.t rfl) (by first | omega | (simp; done) | (simp; omega) | (simp at *; omega)) (by first | omega | (simp; done) | (simp; omega) | (simp at *; omega)) (by first | omega | (simp; done) | (simp; omega) | (simp at *; omega)) rfl, ?_⟩
    refine ⟨_, OpP.assign (.t rfl) rfl, ?_⟩
    show wpB _ _ _ _ _ [] ((4, _) :: (57, _) :: (56, _) :: (55, _) :: (54, _) :: (53, _) :: (52, _) :: (51, _) :: (50, _) :: (49, _) :: (48, _) :: (47, _) :: (46, _) :: (45, _) :: (44, _) :: (43, _) :: _) _
    refine .q 2 hG ?_ -- @ macaroonref06.Reader).Bytes s s
    refine ⟨_, .r1 rfl (.tmp rfl), ?_⟩
    have e0 : prMask (prd r) = (readN ((r.B.take (r.Used + 8).toNat).drop r.Used.toNat) 8, ⟨r.B, r.Used + 8, r.E⟩) := if_neg h8
    refine ⟨_, .cons .z (.nil), ?_⟩
    rw [e0]; refine ⟨(r.B.take (r.Used + 8).toNat).drop r.Used.toNat, ?_, rfl, ?_, rfl⟩
    rw [List.length_drop, List.length_take, Nat.min_eq_left h4]; omega
    dsimp only; rw [show r.Used + 8 - 8 = r.Used by omega]
theorem rBytes8_c (w : Value) (r : PRd) (h : PROk r) (he : r.e = 0) : FunH gl Tryz.prog 30 [rd w, .v (8 : Int)] [.ob w (rdr r)] (fun x Hs => ∃ l : List UInt8, l.length = 8 ∧ readN l 8 = (prMask r).1 ∧ x = .v l ∧ Hs = [.ob w (rdr (prMask r).2)]) := rBytes8_rd w (rdr r) h he
theorem rField_rd (w : Value) (r : Rdr) (h : RdOk r) (he : r.E = 0) : FunH gl Tryz.prog 31 [rd w] [.ob w r] (fun x Hs => x = .v (fieldF (r.B.drop r.Used.toNat)).1 ∧ Hs = [.ob w (⟨r.B, r.Used + (fieldF (r.B.drop r.Used.toNat)).2.1, (fieldF (r.B.drop r.Used.toNat)).2.2⟩ : Rdr)]) := by
  obtain ⟨h0, h1, h2⟩ := h
  have hu := fieldF_used (r.B.drop r.Used.toNat)
  have hdl : (r.B.drop r.Used.toNat).length = r.B.length - r.Used.toNat := List.length_drop
  have hfl : (fieldF (r.B.drop r.Used.toNat)).1.length ≤ 1000000 := by
    by_cases c : (fieldF (r.B.drop r.Used.toNat)).2.2 = 0
    · have := (fieldF_ok (b := r.B.drop r.Used.toNat) (x := (fieldF (r.B.drop r.Used.toNat)).1) (k := (fieldF (r.B.drop r.Used.toNat)).2.1) (by rw [← c])).1
      omega
    · unfold fieldF at c ⊢
      split
      · simp
      · split
        · simp
        · split
          · simp
          · rw [List.length_drop, List.length_take]; omega
  refine FunH.introS Tryz.func31 rfl (by kernel_rfl) 40 rfl rfl _ rfl _ rfl fun C hC hG => ?_
  refine .q 13 hG ?_ -- @ macaroonref06.Reader).Field s s 0.0 s s s s 1.0 1.1 1.2 1.3 1.4 s
  refine .condP (.t rfl) (fun hc10 => (by exfalso; exact hc10 he)) (fun hc10 => ?_)
  refine .q 2 hG ?_ -- @ macaroonref06.Reader).Field s s
  refine .draw (by kernel_rfl) 17 [[], [(12, 0)], [(13, 1)], [(14, 2)], [], [(16, 4)], [(17, 5)], [(18, 6)], [(15, 3), (19, 7)], [(20, 8)], [(21, 9)], [(11, 10)], [(11, 10)], [(11, 10)], [(22, 11)], [(23, 12)], [(24, 13)]] rfl (by kernel_rfl) rfl ?_
  refine ⟨_, OpP.move (.t rfl) rfl, ?_⟩
  refine ⟨_, OpP.nilCheckL (.t rfl) rfl, ?_⟩
  refine ⟨_, OpP.fldW G_macaroonref06_Reader.l0 fd58_0 rfl (.t rfl) rfl, ?_⟩
  refine ⟨_, OpP.ldF (fun x => x.B) ty25 (.t rfl) .z (fun _ => rfl) rfl, ?_⟩
  refine ⟨_, OpP.move (.t rfl) rfl, ?_⟩
  refine ⟨_, OpP.nilCheckL (.t rfl) rfl, ?_⟩
  refine ⟨_, OpP.fldW G_macaroonref06_Reader.l1 fd58_1 rfl (.t rfl) rfl, ?_⟩
  refine ⟨_, OpP.ldF (fun x => x.Used) ty3 (.t rfl) .z (fun _ => rfl) rfl, ?_⟩
  refine ⟨_, OpP.slLo ty5 Tryz.underlying25 (.t rfl) (.t rfl) (by first | omega | (simp; done) | (simp; omega) | (simp at *; omega)) (by first | omega | (simp; done) | (simp; omega) | (simp at *; omega)) rfl, ?_⟩
  refine ⟨_, OpP.call1 hG (rFieldRd_c _ (by omega)) (.cons (.t rfl) .nil) rfl, ?_⟩
  refine ⟨_, OpP.move (.t rfl) rfl, ?_⟩
  refine ⟨_, OpP.ext3_0 (.t rfl) rfl, ?_⟩
  refine ⟨_, OpP.ext3_1 (.t rfl) rfl, ?_⟩
  refine ⟨_, OpP.ext3_2 (.t rfl) rfl, ?_⟩
  refine ⟨_, OpP.assign (.t rfl) rfl, ?_⟩
  refine ⟨_, OpP.assign (.t rfl) rfl, ?_⟩
  refine ⟨_, OpP.assign (.t rfl) rfl, ?_⟩
  show wpB _ _ _ _ _ [] ((5, _) :: (4, _) :: (3, _) :: (24, _) :: (23, _) :: (22, _) :: (11, _) :: (21, _) :: (20, _) :: (19, _) :: (18, _) :: (17, _) :: (16, _) :: (15, _) :: (14, _) :: (13, _) :: (12, _) :: _) _
  refine .q 5 hG ?_ -- @ macaroonref06.Reader).Field s s s 4.0 4.1
  refine .km hG (Fail_rd _ _ _) .z (by rintro _ _ rfl; exact ⟨_, rfl⟩) fun r27 B27 hr27 => ?_ -- @ macaroonref06.Reader).Field 4.2
  cases hr27
  refine .q 2 hG ?_ -- @ macaroonref06.Reader).Field s s
  rw [show rdFail r (fieldF (r.B.drop r.Used.toNat)).2.2 = ⟨r.B, r.Used, (fieldF (r.B.drop r.Used.toNat)).2.2⟩ from if_pos he]
  refine .q 7 hG ?_ -- @ macaroonref06.Reader).Field s 5.0 5.1 5.2 5.3 5.4 5.5
  refine .ad (by first | omega | (simp; done) | (simp; omega) | (simp at *; omega)) (by first | omega | (simp; done) | (simp; omega) | (simp at *; omega)) ?_ -- @ macaroonref06.Reader).Field 5.6
  refine .q 6 hG ?_ -- @ macaroonref06.Reader).Field 5.7 5.8 5.9 s s s
  refine .h (.buildSlice (α := UInt8) ty5 Tryz.underlying25 .nil rfl (by decide) fun b37 => ?_)
  refine .q 1 hG ?_ -- @ macaroonref06.Reader).Field 6.1
  refine .ap (by first | omega | (simp; done) | (simp; omega) | (simp at *; omega)) (by first | omega | (simp; done) | (simp; omega) | (simp at *; omega)) fun w39 => ?_ -- @ macaroonref06.Reader).Field 6.2
  refine .frzOwn hC .z ?_
  refine .as 39 rfl .z ?_
  refine .q 3 hG ?_ -- @ macaroonref06.Reader).Field 6.3 s s
  refine ⟨_, .r1 rfl (.tmp rfl), ?_⟩
  refine ⟨_, .cons (.s .z) (.nil), ?_⟩
  rw [List.nil_append]; exact ⟨rfl, rfl⟩
theorem rFieldN_c (w : Value) (r : PRd) (h : PROk r) (he : r.e = 0) : FunH gl Tryz.prog 31 [rd w] [.ob w (rdr r)] (fun x Hs => x = .v (fieldF (r.b.drop r.used.toNat)).1 ∧ Hs = [.ob w (rdr (prName r).2)]) := rField_rd w (rdr r) h he
theorem prNum_bad {b : List UInt8} (h : (prNum ⟨b, 0, 0⟩).2.e ≠ 0) : (prNum ⟨b, 0, 0⟩).1 = 0 := by
  unfold prNum at h ⊢
  rw [if_neg (by simp)] at h ⊢
  dsimp only at h ⊢
  unfold readF at h ⊢
  repeat' split
  all_goals first | rfl | skip
  rename_i c1 c2 c3 c4
  rw [if_neg c1, if_neg c2, if_neg c3, if_neg c4] at h
  exact absurd rfl h
section
variable {b : List UInt8} {q : Pred × PRd}
theorem end_def (hk : (prNum ⟨b, 0, 0⟩).1 < 1 ∨ 7 < (prNum ⟨b, 0, 0⟩).1) : decF b = (default, 0, (rdFail (rdFail (rdr (prNum ⟨b, 0, 0⟩).2) 6) 5).E) ∧ (rdFail (rdFail (rdr (prNum ⟨b, 0, 0⟩).2) 6) 5).E ≠ 0 := by
  by_cases c : (prNum ⟨b, 0, 0⟩).2.e = 0
  · have e : (rdFail (rdFail (rdr (prNum ⟨b, 0, 0⟩).2) 6) 5).E = 6 := by
      have e1 : rdFail (rdr (prNum ⟨b, 0, 0⟩).2) 6 = ⟨(prNum ⟨b, 0, 0⟩).2.b, (prNum ⟨b, 0, 0⟩).2.used, 6⟩ := if_pos c
      rw [e1]; rfl
    rw [e, decF_6 (fun h => h c) hk]; exact ⟨rfl, by decide⟩
  · have e1 : rdFail (rdr (prNum ⟨b, 0, 0⟩).2) 6 = rdr (prNum ⟨b, 0, 0⟩).2 := if_neg c
    have e2 : rdFail (rdr (prNum ⟨b, 0, 0⟩).2) 5 = rdr (prNum ⟨b, 0, 0⟩).2 := if_neg c
    rw [e1, e2, decF_1 c]; exact ⟨rfl, c⟩
theorem end_bad (h : ¬ (prNum ⟨b, 0, 0⟩).2.e ≠ 0) (hk : ¬ ((prNum ⟨b, 0, 0⟩).1 < 1 ∨ 7 < (prNum ⟨b, 0, 0⟩).1)) (hq : decB (prNum ⟨b, 0, 0⟩).1 (prNum ⟨b, 0, 0⟩).2 = q) (hv : (!predOk q.1) = true) : decF b = (default, 0, (rdFail (rdr q.2) 5).E) ∧ (rdFail (rdr q.2) 5).E ≠ 0 := by
  by_cases c : q.2.e = 0
  · have e1 : rdFail (rdr q.2) 5 = ⟨q.2.b, q.2.used, 5⟩ := if_pos c
    rw [e1, decF_5 h hk hq (fun h => h c) hv]; exact ⟨rfl, show (5 : Int) ≠ 0 by decide⟩
  · have e1 : rdFail (rdr q.2) 5 = rdr q.2 := if_neg c
    rw [e1, decF_e h hk hq c]; exact ⟨rfl, c⟩
theorem end_err (h : ¬ (prNum ⟨b, 0, 0⟩).2.e ≠ 0) (hk : ¬ ((prNum ⟨b, 0, 0⟩).1 < 1 ∨ 7 < (prNum ⟨b, 0, 0⟩).1)) (hq : decB (prNum ⟨b, 0, 0⟩).1 (prNum ⟨b, 0, 0⟩).2 = q) (he : (rdr q.2).E ≠ 0) : decF b = (default, 0, (rdr q.2).E) := decF_e h hk hq he
theorem end_ok (h : ¬ (prNum ⟨b, 0, 0⟩).2.e ≠ 0) (hk : ¬ ((prNum ⟨b, 0, 0⟩).1 < 1 ∨ 7 < (prNum ⟨b, 0, 0⟩).1)) (hq : decB (prNum ⟨b, 0, 0⟩).1 (prNum ⟨b, 0, 0⟩).2 = q) (he : ¬ (rdr q.2).E ≠ 0) (hv : (!predOk q.1) = false) : decF b = (q.1, (rdr q.2).Used, 0) := decF_0 h hk hq he hv
end
theorem rDec_pred_c (b : List UInt8) (hb : b.length ≤ 1000000) : FunA gl Tryz.prog 11 [.v b] (fun r => r = .t3 (.v (decF b).1) (.v (decF b).2.1) (.v (decF b).2.2)) := by
  have ok0 : PROk ⟨b, 0, 0⟩ := ⟨Int.le_refl _, Int.natCast_nonneg _, hb⟩
  have ok1 := prNum_ok ok0
  have ok2 := prNum_ok ok1
  have hbad := prNum_bad (b := b)
  refine FunA.intro Tryz.func11 rfl (by kernel_rfl) 79 rfl rfl _ rfl fun C hC hG => ?_
  refine .q 3 hG fun b2 => ?_ -- @ macaroonref06.Decode s s 0.0
  refine .q 6 hG ?_ -- @ macaroonref06.Decode 0.1 0.2 s s s 1.0
  refine .p (.bS1 G_macaroonref06_Reader.l0 rfl ty58 fo58 (fun c0 => (⟨c0, 0, 0⟩ : G_macaroonref06_Reader)) (fun _ => rfl) rfl rfl (.t rfl) ?_)
  refine .q 1 hG fun b11 => ?_ -- @ macaroonref06.Decode 1.2
  refine .q 5 hG ?_ -- @ macaroonref06.Decode 1.3 s s s 2.0
  refine .km hG (rNum_c _ ⟨b, 0, 0⟩ ok0) .z (by rintro _ _ ⟨_, rfl⟩; exact ⟨_, rfl⟩) fun r13 B13 hr13 => ?_ -- @ macaroonref06.Decode 2.1
  obtain ⟨rfl, hB⟩ := hr13
  cases hB
  refine .p (.bS1 G_api_Predicate.l0 rfl ty24 fo24 (fun c0 => (⟨c0, 0, 0, 0, ⟨[]⟩, 0⟩ : G_api_Predicate)) (fun _ => rfl) rfl rfl (.t rfl) ?_)
  refine .q 1 hG fun b6 => ?_ -- @ macaroonref06.Decode 2.3
  refine .q 16 hG ⟨fun hc19 => ?_, fun hc19 => ?_⟩ -- @ macaroonref06.Decode 2.4 s s s s 3.0 3.1 s s s s s 5.0 5.1 s c19
  · refine .q 2 hG ⟨fun hc19y => ?_, fun y => absurd hc19 y⟩ -- @ macaroonref06.Decode s c19
    refine .q 1 hG ?_ -- @ macaroonref06.Decode s
    have he : (prNum ⟨b, 0, 0⟩).2.e = 0 := (Decidable.byContradiction fun c => by have := hbad c; dsimp only at *; omega)
    refine .q 2 hG ?_ -- @ macaroonref06.Decode s 8.0
    refine .km hG (rBytes8_c _ (prNum ⟨b, 0, 0⟩).2 ok1 he) (.s .z) (by rintro _ _ ⟨_, _, _, _, rfl⟩; exact ⟨_, rfl⟩) fun r24 B24 hr24 => ?_ -- @ macaroonref06.Decode 8.1
    obtain ⟨l, hl8, hlr, rfl, hB⟩ := hr24
    cases hB
    refine .q 7 hG ?_ -- @ macaroonref06.Decode 8.2 s s s 9.0 s s
    refine .loopR (α := Nat) [(2, _), (5, _), (6, _), (7, _)] (fun j R => (8, .v (j : Int)) :: R) (fun j => [(true, .ob (ptr b6 0) (⟨(prNum ⟨b, 0, 0⟩).1, readN l j, 0, 0, ⟨[]⟩, 0⟩ : Pred)), (true, .ob (ptr b11 0) (rdr (prMask (prNum ⟨b, 0, 0⟩).2).2)), (true, .ob (ptr b2 0) (default : Pred))]) (fun j => j ≤ 8) (fun j => 8 - j) (0) (.cons rfl (.cons rfl (.cons rfl (.cons rfl (.nil _))))) ?_ (.cons rfl (.cons rfl (.cons rfl (.cons rfl (.cons rfl (.nil _)))))) (rfl) fun j hF => ?_
    · decide
    refine .q 7 hG ⟨fun hc26 => ?_, fun hc26 => ?_⟩ -- @ macaroonref06.Decode s s s 10.0 10.1 s c26
    · refine .q 3 hG ?_ -- @ macaroonref06.Decode s s s
      refine .draw (by kernel_rfl) 10 [[], [(29, 0)], [(30, 1)], [], [], [(32, 3), (33, 4)], [(34, 5)], [(35, 6)], [(31, 2), (36, 7)], []] rfl (by kernel_rfl) rfl ?_
      refine ⟨_, OpP.fldW G_api_Predicate.l1 fd24_1 rfl (.t rfl) rfl, ?_⟩
      refine ⟨_, OpP.ldF (fun x => x.Mask) ty22 (.t rfl) .z (fun _ => rfl) rfl, ?_⟩
      refine ⟨_, OpP.mul64 (.u64 256 rfl) (.t rfl) rfl, ?_⟩
      refine ⟨_, OpP.move (.t rfl) rfl, ?_⟩
      refine ⟨_, OpP.move (.t rfl) rfl, ?_⟩
      refine ⟨_, OpP.idx ty5 Tryz.underlying25 (.t rfl) (.t rfl) (by first | omega | (simp; done) | (simp; omega) | (simp at *; omega)) (by first | omega | (simp; done) | (simp; omega) | (simp at *; omega)) rfl, ?_⟩
      refine ⟨_, OpP.ldP ty5 (.t rfl) rfl, ?_⟩
      refine ⟨_, OpP.conv8_64 Tryz.underlying5 Tryz.underlying22 (.t rfl) rfl, ?_⟩
      refine ⟨_, OpP.add64 (.t rfl) (.t rfl) rfl, ?_⟩
      refine ⟨_, OpP.fldW G_api_Predicate.l1 fd24_1 rfl (.t rfl) rfl, ?_⟩
      show wpB _ _ _ _ _ [_] ((38, _) :: (37, _) :: (36, _) :: (35, _) :: (34, _) :: (33, _) :: (32, _) :: (31, _) :: (30, _) :: (29, _) :: _) _
      refine .q 4 hG ?_ -- @ macaroonref06.Decode 12.10 s s 11.0
      refine .ad (by first | omega | (simp; done) | (simp; omega) | (simp at *; omega)) (by first | omega | (simp; done) | (simp; omega) | (simp at *; omega)) ?_ -- @ macaroonref06.Decode 11.1
      refine .q 2 hG ?_ -- @ macaroonref06.Decode 11.2 s
      refine ⟨j + 1, .cons rfl (.cons rfl (.cons rfl (.cons rfl (.cons rfl (.nil _))))), congrArg (fun q => [(true, Blk.ob _ (⟨(prNum ⟨b, 0, 0⟩).1, q, 0, 0, ⟨[]⟩, 0⟩ : Pred)), _, _]) (readN_succ l j (by omega)), ?_, by omega⟩
      omega
    · refine .q 3 hG ?_ -- @ macaroonref06.Decode s s s
      obtain rfl : j = 8 := (by omega)
      rw [hlr]
      have hq := decB_m (k := (prNum ⟨b, 0, 0⟩).1) (r := (prNum ⟨b, 0, 0⟩).2) (by dsimp only at *; omega)
      have hkk : ¬ ((prNum ⟨b, 0, 0⟩).1 < 1 ∨ 7 < (prNum ⟨b, 0, 0⟩).1) := (by dsimp only at *; omega)
      refine .q 2 hG ?_ -- @ macaroonref06.Decode s 21.0
      refine .k hG (rPredValid_c _) ?_ -- @ macaroonref06.Decode 21.1
      refine .q 2 hG ?_ -- @ macaroonref06.Decode 21.2 s
      refine .cond (.t rfl) (fun hc61 => ?_) (fun hc61 => ?_)
      · refine .q 2 hG ?_ -- @ macaroonref06.Decode s 22.0
        refine .km hG (Fail_rd _ _ _) (.s .z) (by rintro _ _ rfl; exact ⟨_, rfl⟩) fun r63 B63 hr63 => ?_ -- @ macaroonref06.Decode 22.1
        cases hr63
        refine .q 11 hG ⟨fun hc68 => ?_, fun hc68 => ?_⟩ -- @ macaroonref06.Decode s s s s 23.0 23.1 23.2 23.3 23.4 s c68
        · refine .q 1 hG ?_ -- @ macaroonref06.Decode s
          refine .drawCF [false, false, true] (by kernel_rfl) 8 [[], [], [(70, 1)], [(71, 2)], [(72, 3)], [(69, 0)], [], [(73, 4)]] [5] rfl (by kernel_rfl) rfl (by kernel_rfl) (by decide) ?_
          refine ⟨_, fun H => OpP.bS0 (α := G_api_Predicate) rfl ty24 fo24 rfl, ?_⟩
          refine ⟨_, fun H => OpP.move (.t rfl) rfl, ?_⟩
          refine ⟨_, fun H => OpP.nilCheckL (.t rfl) rfl, ?_⟩
          refine ⟨_, fun H => OpP.fldW G_macaroonref06_Reader.l2 fd58_2 rfl (.t rfl) rfl, ?_⟩
          refine ⟨_, fun H => OpP.ldF (fun x => x.E) ty27 (.t rfl) (Hole.app (.s .z)) (fun _ => rfl) rfl, ?_⟩
          refine .inl ?_
          refine ⟨_, fun H => OpP.assign (.i rfl) rfl, ?_⟩
          refine ⟨_, fun H => OpP.assign (.t rfl) rfl, ?_⟩
          refine ⟨⟨([], fun k => List.getD [(true, .none_), (true, .none_), _] k (true, .none_)), rfl⟩, ?_⟩
          refine OpH.stW ty24 (.t rfl) (.t rfl) (.s (.s .z)) ?_
          refine ⟨⟨([], fun k => List.getD [(true, .none_), (true, .none_), _] k (true, .none_)), rfl⟩, ?_⟩
          show wpB _ _ _ _ _ [] ((4, _) :: (3, _) :: (73, _) :: (72, _) :: (71, _) :: (70, _) :: (69, _) :: _) _
          refine .q 2 hG ?_ -- @ macaroonref06.Decode s s
          refine ⟨_, .r3 rfl (.cell ty24 rfl (.s (.s .z))) (.tmp rfl) (.tmp rfl), ?_⟩
          first | (rw [(end_bad (b := b) (fun c => c he) hkk hq hc61).1]; done) | (rw [end_err (b := b) (fun c => c he) hkk hq hc68]; done) | (rw [(end_def hkd).1]; done) | (exfalso; have hz := predOk_of (by simpa using hc61); have hz := hz.kind; dsimp only at hz; omega)
        · refine .q 2 hG ?_ -- @ macaroonref06.Decode s s
          refine .drawCF [false, false, true] (by kernel_rfl) 8 [[], [], [(75, 1)], [(76, 2)], [(77, 3)], [(74, 0)], [(78, 4)], []] [5] rfl (by kernel_rfl) rfl (by kernel_rfl) (by decide) ?_
          refine ⟨_, fun H => OpP.ldW ty24 (.t rfl) (Hole.app .z) rfl, ?_⟩
          refine ⟨_, fun H => OpP.move (.t rfl) rfl, ?_⟩
          refine ⟨_, fun H => OpP.nilCheckL (.t rfl) rfl, ?_⟩
          refine ⟨_, fun H => OpP.fldW G_macaroonref06_Reader.l1 fd58_1 rfl (.t rfl) rfl, ?_⟩
          refine ⟨_, fun H => OpP.ldF (fun x => x.Used) ty3 (.t rfl) (Hole.app (.s .z)) (fun _ => rfl) rfl, ?_⟩
          refine .inl ?_
          refine ⟨_, fun H => OpP.assign (.t rfl) rfl, ?_⟩
          refine ⟨_, fun H => OpP.assign (.i rfl) rfl, ?_⟩
          refine ⟨⟨([], fun k => List.getD [(true, .none_), (true, .none_), _] k (true, .none_)), rfl⟩, ?_⟩
          refine OpH.stW ty24 (.t rfl) (.t rfl) (.s (.s .z)) ?_
          refine ⟨⟨([], fun k => List.getD [(true, .none_), (true, .none_), _] k (true, .none_)), rfl⟩, ?_⟩
          show wpB _ _ _ _ _ [] ((4, _) :: (3, _) :: (78, _) :: (77, _) :: (76, _) :: (75, _) :: (74, _) :: _) _
          refine .q 2 hG ?_ -- @ macaroonref06.Decode s s
          refine ⟨_, .r3 rfl (.cell ty24 rfl (.s (.s .z))) (.tmp rfl) (.tmp rfl), ?_⟩
          first | (rw [end_ok (b := b) (fun c => c he) hkk hq hc68 hc61]; done) | (rw [end_ok (b := b) (fun c => c he) hkk hq hc68 hc61]; rfl) | (exact absurd (end_bad (b := b) (fun c => c he) hkk hq hc61).2 hc68) | (exact absurd (end_def hkd).2 hc68) | (exfalso; have hz := predOk_of (by simpa using hc61); have hz := hz.kind; dsimp only at hz; omega)
      · refine .q 11 hG ⟨fun hc68 => ?_, fun hc68 => ?_⟩ -- @ macaroonref06.Decode s s s s 23.0 23.1 23.2 23.3 23.4 s c68
        · refine .q 1 hG ?_ -- @ macaroonref06.Decode s
          refine .drawCF [false, false, true] (by kernel_rfl) 8 [[], [], [(70, 1)], [(71, 2)], [(72, 3)], [(69, 0)], [], [(73, 4)]] [5] rfl (by kernel_rfl) rfl (by kernel_rfl) (by decide) ?_
          refine ⟨_, fun H => OpP.bS0 (α := G_api_Predicate) rfl ty24 fo24 rfl, ?_⟩
          refine ⟨_, fun H => OpP.move (.t rfl) rfl, ?_⟩
          refine ⟨_, fun H => OpP.nilCheckL (.t rfl) rfl, ?_⟩
          refine ⟨_, fun H => OpP.fldW G_macaroonref06_Reader.l2 fd58_2 rfl (.t rfl) rfl, ?_⟩
          refine ⟨_, fun H => OpP.ldF (fun x => x.E) ty27 (.t rfl) (Hole.app (.s .z)) (fun _ => rfl) rfl, ?_⟩
          refine .inl ?_
          refine ⟨_, fun H => OpP.assign (.i rfl) rfl, ?_⟩
          refine ⟨_, fun H => OpP.assign (.t rfl) rfl, ?_⟩
          refine ⟨⟨([], fun k => List.getD [(true, .none_), (true, .none_), _] k (true, .none_)), rfl⟩, ?_⟩
          refine OpH.stW ty24 (.t rfl) (.t rfl) (.s (.s .z)) ?_
          refine ⟨⟨([], fun k => List.getD [(true, .none_), (true, .none_), _] k (true, .none_)), rfl⟩, ?_⟩
          show wpB _ _ _ _ _ [] ((4, _) :: (3, _) :: (73, _) :: (72, _) :: (71, _) :: (70, _) :: (69, _) :: _) _
          refine .q 2 hG ?_ -- @ macaroonref06.Decode s s
          refine ⟨_, .r3 rfl (.cell ty24 rfl (.s (.s .z))) (.tmp rfl) (.tmp rfl), ?_⟩
          first | (rw [(end_bad (b := b) (fun c => c he) hkk hq hc61).1]; done) | (rw [end_err (b := b) (fun c => c he) hkk hq hc68]; done) | (rw [(end_def hkd).1]; done) | (exfalso; have hz := predOk_of (by simpa using hc61); have hz := hz.kind; dsimp only at hz; omega)
        · refine .q 2 hG ?_ -- @ macaroonref06.Decode s s
          refine .drawCF [false, false, true] (by kernel_rfl) 8 [[], [], [(75, 1)], [(76, 2)], [(77, 3)], [(74, 0)], [(78, 4)], []] [5] rfl (by kernel_rfl) rfl (by kernel_rfl) (by decide) ?_
          refine ⟨_, fun H => OpP.ldW ty24 (.t rfl) (Hole.app .z) rfl, ?_⟩
          refine ⟨_, fun H => OpP.move (.t rfl) rfl, ?_⟩
          refine ⟨_, fun H => OpP.nilCheckL (.t rfl) rfl, ?_⟩
          refine ⟨_, fun H => OpP.fldW G_macaroonref06_Reader.l1 fd58_1 rfl (.t rfl) rfl, ?_⟩
          refine ⟨_, fun H => OpP.ldF (fun x => x.Used) ty3 (.t rfl) (Hole.app (.s .z)) (fun _ => rfl) rfl, ?_⟩
          refine .inl ?_
          refine ⟨_, fun H => OpP.assign (.t rfl) rfl, ?_⟩
          refine ⟨_, fun H => OpP.assign (.i rfl) rfl, ?_⟩
          refine ⟨⟨([], fun k => List.getD [(true, .none_), (true, .none_), _] k (true, .none_)), rfl⟩, ?_⟩
          refine OpH.stW ty24 (.t rfl) (.t rfl) (.s (.s .z)) ?_
          refine ⟨⟨([], fun k => List.getD [(true, .none_), (true, .none_), _] k (true, .none_)), rfl⟩, ?_⟩
          show wpB _ _ _ _ _ [] ((4, _) :: (3, _) :: (78, _) :: (77, _) :: (76, _) :: (75, _) :: (74, _) :: _) _
          refine .q 2 hG ?_ -- @ macaroonref06.Decode s s
          refine ⟨_, .r3 rfl (.cell ty24 rfl (.s (.s .z))) (.tmp rfl) (.tmp rfl), ?_⟩
          first | (rw [end_ok (b := b) (fun c => c he) hkk hq hc68 hc61]; done) | (rw [end_ok (b := b) (fun c => c he) hkk hq hc68 hc61]; rfl) | (exact absurd (end_bad (b := b) (fun c => c he) hkk hq hc61).2 hc68) | (exact absurd (end_def hkd).2 hc68) | (exfalso; have hz := predOk_of (by simpa using hc61); have hz := hz.kind; dsimp only at hz; omega)
  · refine .q 6 hG ⟨fun hc19 => ?_, fun hc19 => ?_⟩ -- @ macaroonref06.Decode s s 6.0 6.1 s c19
    · refine .q 2 hG ⟨fun hc19y => ?_, fun y => absurd hc19 y⟩ -- @ macaroonref06.Decode s c19
      refine .q 1 hG ?_ -- @ macaroonref06.Decode s
      have he : (prNum ⟨b, 0, 0⟩).2.e = 0 := (Decidable.byContradiction fun c => by have := hbad c; dsimp only at *; omega)
      refine .q 2 hG ?_ -- @ macaroonref06.Decode s 8.0
      refine .km hG (rBytes8_c _ (prNum ⟨b, 0, 0⟩).2 ok1 he) (.s .z) (by rintro _ _ ⟨_, _, _, _, rfl⟩; exact ⟨_, rfl⟩) fun r24 B24 hr24 => ?_ -- @ macaroonref06.Decode 8.1
      obtain ⟨l, hl8, hlr, rfl, hB⟩ := hr24
      cases hB
      refine .q 7 hG ?_ -- @ macaroonref06.Decode 8.2 s s s 9.0 s s
      refine .loopR (α := Nat) [(2, _), (5, _), (6, _), (7, _)] (fun j R => (8, .v (j : Int)) :: R) (fun j => [(true, .ob (ptr b6 0) (⟨(prNum ⟨b, 0, 0⟩).1, readN l j, 0, 0, ⟨[]⟩, 0⟩ : Pred)), (true, .ob (ptr b11 0) (rdr (prMask (prNum ⟨b, 0, 0⟩).2).2)), (true, .ob (ptr b2 0) (default : Pred))]) (fun j => j ≤ 8) (fun j => 8 - j) (0) (.cons rfl (.cons rfl (.cons rfl (.cons rfl (.nil _))))) ?_ (.cons rfl (.cons rfl (.cons rfl (.cons rfl (.cons rfl (.nil _)))))) (rfl) fun j hF => ?_
      · decide
      refine .q 7 hG ⟨fun hc26 => ?_, fun hc26 => ?_⟩ -- @ macaroonref06.Decode s s s 10.0 10.1 s c26
      · refine .q 3 hG ?_ -- @ macaroonref06.Decode s s s
        refine .draw (by kernel_rfl) 10 [[], [(29, 0)], [(30, 1)], [], [], [(32, 3), (33, 4)], [(34, 5)], [(35, 6)], [(31, 2), (36, 7)], []] rfl (by kernel_rfl) rfl ?_
        refine ⟨_, OpP.fldW G_api_Predicate.l1 fd24_1 rfl (.t rfl) rfl, ?_⟩
        refine ⟨_, OpP.ldF (fun x => x.Mask) ty22 (.t rfl) .z (fun _ => rfl) rfl, ?_⟩
        refine ⟨_, OpP.mul64 (.u64 256 rfl) (.t rfl) rfl, ?_⟩
        refine ⟨_, OpP.move (.t rfl) rfl, ?_⟩
        refine ⟨_, OpP.move (.t rfl) rfl, ?_⟩
        refine ⟨_, OpP.idx ty5 Tryz.underlying25 (.t rfl) (.t rfl) (by first | omega | (simp; done) | (simp; omega) | (simp at *; omega)) (by first | omega | (simp; done) | (simp; omega) | (simp at *; omega)) rfl, ?_⟩
        refine ⟨_, OpP.ldP ty5 (.t rfl) rfl, ?_⟩
        refine ⟨_, OpP.conv8_64 Tryz.underlying5 Tryz.underlying22 (.t rfl) rfl, ?_⟩
        refine ⟨_, OpP.add64 (.t rfl) (.t rfl) rfl, ?_⟩
        refine ⟨_, OpP.fldW G_api_Predicate.l1 fd24_1 rfl (.t rfl) rfl, ?_⟩
        show wpB _ _ _ _ _ [_] ((38, _) :: (37, _) :: (36, _) :: (35, _) :: (34, _) :: (33, _) :: (32, _) :: (31, _) :: (30, _) :: (29, _) :: _) _
        refine .q 4 hG ?_ -- @ macaroonref06.Decode 12.10 s s 11.0
        refine .ad (by first | omega | (simp; done) | (simp; omega) | (simp at *; omega)) (by first | omega | (simp; done) | (simp; omega) | (simp at *; omega)) ?_ -- @ macaroonref06.Decode 11.1
        refine .q 2 hG ?_ -- @ macaroonref06.Decode 11.2 s
        refine ⟨j + 1, .cons rfl (.cons rfl (.cons rfl (.cons rfl (.cons rfl (.nil _))))), congrArg (fun q => [(true, Blk.ob _ (⟨(prNum ⟨b, 0, 0⟩).1, q, 0, 0, ⟨[]⟩, 0⟩ : Pred)), _, _]) (readN_succ l j (by omega)), ?_, by omega⟩
        omega
      · refine .q 3 hG ?_ -- @ macaroonref06.Decode s s s
        obtain rfl : j = 8 := (by omega)
        rw [hlr]
        have hq := decB_m (k := (prNum ⟨b, 0, 0⟩).1) (r := (prNum ⟨b, 0, 0⟩).2) (by dsimp only at *; omega)
        have hkk : ¬ ((prNum ⟨b, 0, 0⟩).1 < 1 ∨ 7 < (prNum ⟨b, 0, 0⟩).1) := (by dsimp only at *; omega)
        refine .q 2 hG ?_ -- @ macaroonref06.Decode s 21.0
        refine .k hG (rPredValid_c _) ?_ -- @ macaroonref06.Decode 21.1
        refine .q 2 hG ?_ -- @ macaroonref06.Decode 21.2 s
        refine .cond (.t rfl) (fun hc61 => ?_) (fun hc61 => ?_)
        · refine .q 2 hG ?_ -- @ macaroonref06.Decode s 22.0
          refine .km hG (Fail_rd _ _ _) (.s .z) (by rintro _ _ rfl; exact ⟨_, rfl⟩) fun r63 B63 hr63 => ?_ -- @ macaroonref06.Decode 22.1
          cases hr63
          refine .q 11 hG ⟨fun hc68 => ?_, fun hc68 => ?_⟩ -- @ macaroonref06.Decode s s s s 23.0 23.1 23.2 23.3 23.4 s c68
          · refine .q 1 hG ?_ -- @ macaroonref06.Decode s
            refine .drawCF [false, false, true] (by kernel_rfl) 8 [[], [], [(70, 1)], [(71, 2)], [(72, 3)], [(69, 0)], [], [(73, 4)]] [5] rfl (by kernel_rfl) rfl (by kernel_rfl) (by decide) ?_
            refine ⟨_, fun H => OpP.bS0 (α := G_api_Predicate) rfl ty24 fo24 rfl, ?_⟩
            refine ⟨_, fun H => OpP.move (.t rfl) rfl, ?_⟩
            refine ⟨_, fun H => OpP.nilCheckL (.t rfl) rfl, ?_⟩
            refine ⟨_, fun H => OpP.fldW G_macaroonref06_Reader.l2 fd58_2 rfl (.t rfl) rfl, ?_⟩
            refine ⟨_, fun H => OpP.ldF (fun x => x.E) ty27 (.t rfl) (Hole.app (.s .z)) (fun _ => rfl) rfl, ?_⟩
            refine .inl ?_
            refine ⟨_, fun H => OpP.assign (.i rfl) rfl, ?_⟩
            refine ⟨_, fun H => OpP.assign (.t rfl) rfl, ?_⟩
            refine ⟨⟨([], fun k => List.getD [(true, .none_), (true, .none_), _] k (true, .none_)), rfl⟩, ?_⟩
            refine OpH.stW ty24 (.t rfl) (.t rfl) (.s (.s .z)) ?_
            refine ⟨⟨([], fun k => List.getD [(true, .none_), (true, .none_), _] k (true, .none_)), rfl⟩, ?_⟩
            show wpB _ _ _ _ _ [] ((4, _) :: (3, _) :: (73, _) :: (72, _) :: (71, _) :: (70, _) :: (69, _) :: _) _
            refine .q 2 hG ?_ -- @ macaroonref06.Decode s s
            refine ⟨_, .r3 rfl (.cell ty24 rfl (.s (.s .z))) (.tmp rfl) (.tmp rfl), ?_⟩
            first | (rw [(end_bad (b := b) (fun c => c he) hkk hq hc61).1]; done) | (rw [end_err (b := b) (fun c => c he) hkk hq hc68]; done) | (rw [(end_def hkd).1]; done) | (exfalso; have hz := predOk_of (by simpa using hc61); have hz := hz.kind; dsimp only at hz; omega)
          · refine .q 2 hG ?_ -- @ macaroonref06.Decode s s
            refine .drawCF [false, false, true] (by kernel_rfl) 8 [[], [], [(75, 1)], [(76, 2)], [(77, 3)], [(74, 0)], [(78, 4)], []] [5] rfl (by kernel_rfl) rfl (by kernel_rfl) (by decide) ?_
            refine ⟨_, fun H => OpP.ldW ty24 (.t rfl) (Hole.app .z) rfl, ?_⟩
            refine ⟨_, fun H => OpP.move (.t rfl) rfl, ?_⟩
            refine ⟨_, fun H => OpP.nilCheckL (.t rfl) rfl, ?_⟩
            refine ⟨_, fun H => OpP.fldW G_macaroonref06_Reader.l1 fd58_1 rfl (.t rfl) rfl, ?_⟩
            refine ⟨_, fun H => OpP.ldF (fun x => x.Used) ty3 (.t rfl) (Hole.app (.s .z)) (fun _ => rfl) rfl, ?_⟩
            refine .inl ?_
            refine ⟨_, fun H => OpP.assign (.t rfl) rfl, ?_⟩
            refine ⟨_, fun H => OpP.assign (.i rfl) rfl, ?_⟩
            refine ⟨⟨([], fun k => List.getD [(true, .none_), (true, .none_), _] k (true, .none_)), rfl⟩, ?_⟩
            refine OpH.stW ty24 (.t rfl) (.t rfl) (.s (.s .z)) ?_
            refine ⟨⟨([], fun k => List.getD [(true, .none_), (true, .none_), _] k (true, .none_)), rfl⟩, ?_⟩
            show wpB _ _ _ _ _ [] ((4, _) :: (3, _) :: (78, _) :: (77, _) :: (76, _) :: (75, _) :: (74, _) :: _) _
            refine .q 2 hG ?_ -- @ macaroonref06.Decode s s
            refine ⟨_, .r3 rfl (.cell ty24 rfl (.s (.s .z))) (.tmp rfl) (.tmp rfl), ?_⟩
            first | (rw [end_ok (b := b) (fun c => c he) hkk hq hc68 hc61]; done) | (rw [end_ok (b := b) (fun c => c he) hkk hq hc68 hc61]; rfl) | (exact absurd (end_bad (b := b) (fun c => c he) hkk hq hc61).2 hc68) | (exact absurd (end_def hkd).2 hc68) | (exfalso; have hz := predOk_of (by simpa using hc61); have hz := hz.kind; dsimp only at hz; omega)
        · refine .q 11 hG ⟨fun hc68 => ?_, fun hc68 => ?_⟩ -- @ macaroonref06.Decode s s s s 23.0 23.1 23.2 23.3 23.4 s c68
          · refine .q 1 hG ?_ -- @ macaroonref06.Decode s
            refine .drawCF [false, false, true] (by kernel_rfl) 8 [[], [], [(70, 1)], [(71, 2)], [(72, 3)], [(69, 0)], [], [(73, 4)]] [5] rfl (by kernel_rfl) rfl (by kernel_rfl) (by decide) ?_
            refine ⟨_, fun H => OpP.bS0 (α := G_api_Predicate) rfl ty24 fo24 rfl, ?_⟩
            refine ⟨_, fun H => OpP.move (.t rfl) rfl, ?_⟩
            refine ⟨_, fun H => OpP.nilCheckL (.t rfl) rfl, ?_⟩
            refine ⟨_, fun H => OpP.fldW G_macaroonref06_Reader.l2 fd58_2 rfl (.t rfl) rfl, ?_⟩
            refine ⟨_, fun H => OpP.ldF (fun x => x.E) ty27 (.t rfl) (Hole.app (.s .z)) (fun _ => rfl) rfl, ?_⟩
            refine .inl ?_
            refine ⟨_, fun H => OpP.assign (.i rfl) rfl, ?_⟩
            refine ⟨_, fun H => OpP.assign (.t rfl) rfl, ?_⟩
            refine ⟨⟨([], fun k => List.getD [(true, .none_), (true, .none_), _] k (true, .none_)), rfl⟩, ?_⟩
            refine OpH.stW ty24 (.t rfl) (.t rfl) (.s (.s .z)) ?_
            refine ⟨⟨([], fun k => List.getD [(true, .none_), (true, .none_), _] k (true, .none_)), rfl⟩, ?_⟩
            show wpB _ _ _ _ _ [] ((4, _) :: (3, _) :: (73, _) :: (72, _) :: (71, _) :: (70, _) :: (69, _) :: _) _
            refine .q 2 hG ?_ -- @ macaroonref06.Decode s s
            refine ⟨_, .r3 rfl (.cell ty24 rfl (.s (.s .z))) (.tmp rfl) (.tmp rfl), ?_⟩
            first | (rw [(end_bad (b := b) (fun c => c he) hkk hq hc61).1]; done) | (rw [end_err (b := b) (fun c => c he) hkk hq hc68]; done) | (rw [(end_def hkd).1]; done) | (exfalso; have hz := predOk_of (by simpa using hc61); have hz := hz.kind; dsimp only at hz; omega)
          · refine .q 2 hG ?_ -- @ macaroonref06.Decode s s
            refine .drawCF [false, false, true] (by kernel_rfl) 8 [[], [], [(75, 1)], [(76, 2)], [(77, 3)], [(74, 0)], [(78, 4)], []] [5] rfl (by kernel_rfl) rfl (by kernel_rfl) (by decide) ?_
            refine ⟨_, fun H => OpP.ldW ty24 (.t rfl) (Hole.app .z) rfl, ?_⟩
            refine ⟨_, fun H => OpP.move (.t rfl) rfl, ?_⟩
            refine ⟨_, fun H => OpP.nilCheckL (.t rfl) rfl, ?_⟩
            refine ⟨_, fun H => OpP.fldW G_macaroonref06_Reader.l1 fd58_1 rfl (.t rfl) rfl, ?_⟩
            refine ⟨_, fun H => OpP.ldF (fun x => x.Used) ty3 (.t rfl) (Hole.app (.s .z)) (fun _ => rfl) rfl, ?_⟩
            refine .inl ?_
            refine ⟨_, fun H => OpP.assign (.t rfl) rfl, ?_⟩
            refine ⟨_, fun H => OpP.assign (.i rfl) rfl, ?_⟩
            refine ⟨⟨([], fun k => List.getD [(true, .none_), (true, .none_), _] k (true, .none_)), rfl⟩, ?_⟩
            refine OpH.stW ty24 (.t rfl) (.t rfl) (.s (.s .z)) ?_
            refine ⟨⟨([], fun k => List.getD [(true, .none_), (true, .none_), _] k (true, .none_)), rfl⟩, ?_⟩
            show wpB _ _ _ _ _ [] ((4, _) :: (3, _) :: (78, _) :: (77, _) :: (76, _) :: (75, _) :: (74, _) :: _) _
            refine .q 2 hG ?_ -- @ macaroonref06.Decode s s
            refine ⟨_, .r3 rfl (.cell ty24 rfl (.s (.s .z))) (.tmp rfl) (.tmp rfl), ?_⟩
            first | (rw [end_ok (b := b) (fun c => c he) hkk hq hc68 hc61]; done) | (rw [end_ok (b := b) (fun c => c he) hkk hq hc68 hc61]; rfl) | (exact absurd (end_bad (b := b) (fun c => c he) hkk hq hc61).2 hc68) | (exact absurd (end_def hkd).2 hc68) | (exfalso; have hz := predOk_of (by simpa using hc61); have hz := hz.kind; dsimp only at hz; omega)
    · refine .q 5 hG ⟨fun hc19 => ?_, fun hc19 => ?_⟩ -- @ macaroonref06.Decode s 7.0 7.1 s c19
      · refine .q 1 hG ?_ -- @ macaroonref06.Decode s
        have he : (prNum ⟨b, 0, 0⟩).2.e = 0 := (Decidable.byContradiction fun c => by have := hbad c; dsimp only at *; omega)
        refine .q 2 hG ?_ -- @ macaroonref06.Decode s 8.0
        refine .km hG (rBytes8_c _ (prNum ⟨b, 0, 0⟩).2 ok1 he) (.s .z) (by rintro _ _ ⟨_, _, _, _, rfl⟩; exact ⟨_, rfl⟩) fun r24 B24 hr24 => ?_ -- @ macaroonref06.Decode 8.1
        obtain ⟨l, hl8, hlr, rfl, hB⟩ := hr24
        cases hB
        refine .q 7 hG ?_ -- @ macaroonref06.Decode 8.2 s s s 9.0 s s
        refine .loopR (α := Nat) [(2, _), (5, _), (6, _), (7, _)] (fun j R => (8, .v (j : Int)) :: R) (fun j => [(true, .ob (ptr b6 0) (⟨(prNum ⟨b, 0, 0⟩).1, readN l j, 0, 0, ⟨[]⟩, 0⟩ : Pred)), (true, .ob (ptr b11 0) (rdr (prMask (prNum ⟨b, 0, 0⟩).2).2)), (true, .ob (ptr b2 0) (default : Pred))]) (fun j => j ≤ 8) (fun j => 8 - j) (0) (.cons rfl (.cons rfl (.cons rfl (.cons rfl (.nil _))))) ?_ (.cons rfl (.cons rfl (.cons rfl (.cons rfl (.cons rfl (.nil _)))))) (rfl) fun j hF => ?_
        · decide
        refine .q 7 hG ⟨fun hc26 => ?_, fun hc26 => ?_⟩ -- @ macaroonref06.Decode s s s 10.0 10.1 s c26
        · refine .q 3 hG ?_ -- @ macaroonref06.Decode s s s
          refine .draw (by kernel_rfl) 10 [[], [(29, 0)], [(30, 1)], [], [], [(32, 3), (33, 4)], [(34, 5)], [(35, 6)], [(31, 2), (36, 7)], []] rfl (by kernel_rfl) rfl ?_
          refine ⟨_, OpP.fldW G_api_Predicate.l1 fd24_1 rfl (.t rfl) rfl, ?_⟩
          refine ⟨_, OpP.ldF (fun x => x.Mask) ty22 (.t rfl) .z (fun _ => rfl) rfl, ?_⟩
          refine ⟨_, OpP.mul64 (.u64 256 rfl) (.t rfl) rfl, ?_⟩
          refine ⟨_, OpP.move (.t rfl) rfl, ?_⟩
          refine ⟨_, OpP.move (.t rfl) rfl, ?_⟩
          refine ⟨_, OpP.idx ty5 Tryz.underlying25 (.t rfl) (.t rfl) (by first | omega | (simp; done) | (simp; omega) | (simp at *; omega)) (by first | omega | (simp; done) | (simp; omega) | (simp at *; omega)) rfl, ?_⟩
          refine ⟨_, OpP.ldP ty5 (.t rfl) rfl, ?_⟩
          refine ⟨_, OpP.conv8_64 Tryz.underlying5 Tryz.underlying22 (.t rfl) rfl, ?_⟩
          refine ⟨_, OpP.add64 (.t rfl) (.t rfl) rfl, ?_⟩
          refine ⟨_, OpP.fldW G_api_Predicate.l1 fd24_1 rfl (.t rfl) rfl, ?_⟩
          show wpB _ _ _ _ _ [_] ((38, _) :: (37, _) :: (36, _) :: (35, _) :: (34, _) :: (33, _) :: (32, _) :: (31, _) :: (30, _) :: (29, _) :: _) _
          refine .q 4 hG ?_ -- @ macaroonref06.Decode 12.10 s s 11.0
          refine .ad (by first | omega | (simp; done) | (simp; omega) | (simp at *; omega)) (by first | omega | (simp; done) | (simp; omega) | (simp at *; omega)) ?_ -- @ macaroonref06.Decode 11.1
          refine .q 2 hG ?_ -- @ macaroonref06.Decode 11.2 s
          refine ⟨j + 1, .cons rfl (.cons rfl (.cons rfl (.cons rfl (.cons rfl (.nil _))))), congrArg (fun q => [(true, Blk.ob _ (⟨(prNum ⟨b, 0, 0⟩).1, q, 0, 0, ⟨[]⟩, 0⟩ : Pred)), _, _]) (readN_succ l j (by omega)), ?_, by omega⟩
          omega
        · refine .q 3 hG ?_ -- @ macaroonref06.Decode s s s
          obtain rfl : j = 8 := (by omega)
          rw [hlr]
          have hq := decB_m (k := (prNum ⟨b, 0, 0⟩).1) (r := (prNum ⟨b, 0, 0⟩).2) (by dsimp only at *; omega)
          have hkk : ¬ ((prNum ⟨b, 0, 0⟩).1 < 1 ∨ 7 < (prNum ⟨b, 0, 0⟩).1) := (by dsimp only at *; omega)
          refine .q 2 hG ?_ -- @ macaroonref06.Decode s 21.0
          refine .k hG (rPredValid_c _) ?_ -- @ macaroonref06.Decode 21.1
          refine .q 2 hG ?_ -- @ macaroonref06.Decode 21.2 s
          refine .cond (.t rfl) (fun hc61 => ?_) (fun hc61 => ?_)
          · refine .q 2 hG ?_ -- @ macaroonref06.Decode s 22.0
            refine .km hG (Fail_rd _ _ _) (.s .z) (by rintro _ _ rfl; exact ⟨_, rfl⟩) fun r63 B63 hr63 => ?_ -- @ macaroonref06.Decode 22.1
            cases hr63
            refine .q 11 hG ⟨fun hc68 => ?_, fun hc68 => ?_⟩ -- @ macaroonref06.Decode s s s s 23.0 23.1 23.2 23.3 23.4 s c68
            · refine .q 1 hG ?_ -- @ macaroonref06.Decode s
              refine .drawCF [false, false, true] (by kernel_rfl) 8 [[], [], [(70, 1)], [(71, 2)], [(72, 3)], [(69, 0)], [], [(73, 4)]] [5] rfl (by kernel_rfl) rfl (by kernel_rfl) (by decide) ?_
              refine ⟨_, fun H => OpP.bS0 (α := G_api_Predicate) rfl ty24 fo24 rfl, ?_⟩
              refine ⟨_, fun H => OpP.move (.t rfl) rfl, ?_⟩
              refine ⟨_, fun H => OpP.nilCheckL (.t rfl) rfl, ?_⟩
              refine ⟨_, fun H => OpP.fldW G_macaroonref06_Reader.l2 fd58_2 rfl (.t rfl) rfl, ?_⟩
              refine ⟨_, fun H => OpP.ldF (fun x => x.E) ty27 (.t rfl) (Hole.app (.s .z)) (fun _ => rfl) rfl, ?_⟩
              refine .inl ?_
              refine ⟨_, fun H => OpP.assign (.i rfl) rfl, ?_⟩
              refine ⟨_, fun H => OpP.assign (.t rfl) rfl, ?_⟩
              refine ⟨⟨([], fun k => List.getD [(true, .none_), (true, .none_), _] k (true, .none_)), rfl⟩, ?_⟩
              refine OpH.stW ty24 (.t rfl) (.t rfl) (.s (.s .z)) ?_
              refine ⟨⟨([], fun k => List.getD [(true, .none_), (true, .none_), _] k (true, .none_)), rfl⟩, ?_⟩
              show wpB _ _ _ _ _ [] ((4, _) :: (3, _) :: (73, _) :: (72, _) :: (71, _) :: (70, _) :: (69, _) :: _) _
              refine .q 2 hG ?_ -- @ macaroonref06.Decode s s
              refine ⟨_, .r3 rfl (.cell ty24 rfl (.s (.s .z))) (.tmp rfl) (.tmp rfl), ?_⟩
              first | (rw [(end_bad (b := b) (fun c => c he) hkk hq hc61).1]; done) | (rw [end_err (b := b) (fun c => c he) hkk hq hc68]; done) | (rw [(end_def hkd).1]; done) | (exfalso; have hz := predOk_of (by simpa using hc61); have hz := hz.kind; dsimp only at hz; omega)
            · refine .q 2 hG ?_ -- @ macaroonref06.Decode s s
              refine .drawCF [false, false, true] (by kernel_rfl) 8 [[], [], [(75, 1)], [(76, 2)], [(77, 3)], [(74, 0)], [(78, 4)], []] [5] rfl (by kernel_rfl) rfl (by kernel_rfl) (by decide) ?_
              refine ⟨_, fun H => OpP.ldW ty24 (.t rfl) (Hole.app .z) rfl, ?_⟩
              refine ⟨_, fun H => OpP.move (.t rfl) rfl, ?_⟩
              refine ⟨_, fun H => OpP.nilCheckL (.t rfl) rfl, ?_⟩
              refine ⟨_, fun H => OpP.fldW G_macaroonref06_Reader.l1 fd58_1 rfl (.t rfl) rfl, ?_⟩
              refine ⟨_, fun H => OpP.ldF (fun x => x.Used) ty3 (.t rfl) (Hole.app (.s .z)) (fun _ => rfl) rfl, ?_⟩
              refine .inl ?_
              refine ⟨_, fun H => OpP.assign (.t rfl) rfl, ?_⟩
              refine ⟨_, fun H => OpP.assign (.i rfl) rfl, ?_⟩
              refine ⟨⟨([], fun k => List.getD [(true, .none_), (true, .none_), _] k (true, .none_)), rfl⟩, ?_⟩
              refine OpH.stW ty24 (.t rfl) (.t rfl) (.s (.s .z)) ?_
              refine ⟨⟨([], fun k => List.getD [(true, .none_), (true, .none_), _] k (true, .none_)), rfl⟩, ?_⟩
              show wpB _ _ _ _ _ [] ((4, _) :: (3, _) :: (78, _) :: (77, _) :: (76, _) :: (75, _) :: (74, _) :: _) _
              refine .q 2 hG ?_ -- @ macaroonref06.Decode s s
              refine ⟨_, .r3 rfl (.cell ty24 rfl (.s (.s .z))) (.tmp rfl) (.tmp rfl), ?_⟩
              first | (rw [end_ok (b := b) (fun c => c he) hkk hq hc68 hc61]; done) | (rw [end_ok (b := b) (fun c => c he) hkk hq hc68 hc61]; rfl) | (exact absurd (end_bad (b := b) (fun c => c he) hkk hq hc61).2 hc68) | (exact absurd (end_def hkd).2 hc68) | (exfalso; have hz := predOk_of (by simpa using hc61); have hz := hz.kind; dsimp only at hz; omega)
          · refine .q 11 hG ⟨fun hc68 => ?_, fun hc68 => ?_⟩ -- @ macaroonref06.Decode s s s s 23.0 23.1 23.2 23.3 23.4 s c68
            · refine .q 1 hG ?_ -- @ macaroonref06.Decode s
              refine .drawCF [false, false, true] (by kernel_rfl) 8 [[], [], [(70, 1)], [(71, 2)], [(72, 3)], [(69, 0)], [], [(73, 4)]] [5] rfl (by kernel_rfl) rfl (by kernel_rfl) (by decide) ?_
              refine ⟨_, fun H => OpP.bS0 (α := G_api_Predicate) rfl ty24 fo24 rfl, ?_⟩
              refine ⟨_, fun H => OpP.move (.t rfl) rfl, ?_⟩
              refine ⟨_, fun H => OpP.nilCheckL (.t rfl) rfl, ?_⟩
              refine ⟨_, fun H => OpP.fldW G_macaroonref06_Reader.l2 fd58_2 rfl (.t rfl) rfl, ?_⟩
              refine ⟨_, fun H => OpP.ldF (fun x => x.E) ty27 (.t rfl) (Hole.app (.s .z)) (fun _ => rfl) rfl, ?_⟩
              refine .inl ?_
              refine ⟨_, fun H => OpP.assign (.i rfl) rfl, ?_⟩
              refine ⟨_, fun H => OpP.assign (.t rfl) rfl, ?_⟩
              refine ⟨⟨([], fun k => List.getD [(true, .none_), (true, .none_), _] k (true, .none_)), rfl⟩, ?_⟩
              refine OpH.stW ty24 (.t rfl) (.t rfl) (.s (.s .z)) ?_
              refine ⟨⟨([], fun k => List.getD [(true, .none_), (true, .none_), _] k (true, .none_)), rfl⟩, ?_⟩
              show wpB _ _ _ _ _ [] ((4, _) :: (3, _) :: (73, _) :: (72, _) :: (71, _) :: (70, _) :: (69, _) :: _) _
              refine .q 2 hG ?_ -- @ macaroonref06.Decode s s
              refine ⟨_, .r3 rfl (.cell ty24 rfl (.s (.s .z))) (.tmp rfl) (.tmp rfl), ?_⟩
              first | (rw [(end_bad (b := b) (fun c => c he) hkk hq hc61).1]; done) | (rw [end_err (b := b) (fun c => c he) hkk hq hc68]; done) | (rw [(end_def hkd).1]; done) | (exfalso; have hz := predOk_of (by simpa using hc61); have hz := hz.kind; dsimp only at hz; omega)
            · refine .q 2 hG ?_ -- @ macaroonref06.Decode s s
              refine .drawCF [false, false, true] (by kernel_rfl) 8 [[], [], [(75, 1)], [(76, 2)], [(77, 3)], [(74, 0)], [(78, 4)], []] [5] rfl (by kernel_rfl) rfl (by kernel_rfl) (by decide) ?_
              refine ⟨_, fun H => OpP.ldW ty24 (.t rfl) (Hole.app .z) rfl, ?_⟩
              refine ⟨_, fun H => OpP.move (.t rfl) rfl, ?_⟩
              refine ⟨_, fun H => OpP.nilCheckL (.t rfl) rfl, ?_⟩
              refine ⟨_, fun H => OpP.fldW G_macaroonref06_Reader.l1 fd58_1 rfl (.t rfl) rfl, ?_⟩
              refine ⟨_, fun H => OpP.ldF (fun x => x.Used) ty3 (.t rfl) (Hole.app (.s .z)) (fun _ => rfl) rfl, ?_⟩
              refine .inl ?_
              refine ⟨_, fun H => OpP.assign (.t rfl) rfl, ?_⟩
              refine ⟨_, fun H => OpP.assign (.i rfl) rfl, ?_⟩
              refine ⟨⟨([], fun k => List.getD [(true, .none_), (true, .none_), _] k (true, .none_)), rfl⟩, ?_⟩
              refine OpH.stW ty24 (.t rfl) (.t rfl) (.s (.s .z)) ?_
              refine ⟨⟨([], fun k => List.getD [(true, .none_), (true, .none_), _] k (true, .none_)), rfl⟩, ?_⟩
              show wpB _ _ _ _ _ [] ((4, _) :: (3, _) :: (78, _) :: (77, _) :: (76, _) :: (75, _) :: (74, _) :: _) _
              refine .q 2 hG ?_ -- @ macaroonref06.Decode s s
              refine ⟨_, .r3 rfl (.cell ty24 rfl (.s (.s .z))) (.tmp rfl) (.tmp rfl), ?_⟩
              first | (rw [end_ok (b := b) (fun c => c he) hkk hq hc68 hc61]; done) | (rw [end_ok (b := b) (fun c => c he) hkk hq hc68 hc61]; rfl) | (exact absurd (end_bad (b := b) (fun c => c he) hkk hq hc61).2 hc68) | (exact absurd (end_def hkd).2 hc68) | (exfalso; have hz := predOk_of (by simpa using hc61); have hz := hz.kind; dsimp only at hz; omega)
      · refine .q 7 hG ⟨fun hc39 => ?_, fun hc39 => ?_⟩ -- @ macaroonref06.Decode s s s 13.0 13.1 s c39
        · refine .q 2 hG ⟨fun hc39y => ?_, fun y => absurd hc39 y⟩ -- @ macaroonref06.Decode s c39
          refine .q 1 hG ?_ -- @ macaroonref06.Decode s
          have he : (prNum ⟨b, 0, 0⟩).2.e = 0 := (Decidable.byContradiction fun c => by have := hbad c; dsimp only at *; omega)
          refine .q 2 hG ?_ -- @ macaroonref06.Decode s 15.0
          refine .km hG (rNum_c _ (prNum ⟨b, 0, 0⟩).2 ok1) (.s .z) (by rintro _ _ ⟨_, rfl⟩; exact ⟨_, rfl⟩) fun r43 B43 hr43 => ?_ -- @ macaroonref06.Decode 15.1
          obtain ⟨rfl, hB⟩ := hr43
          cases hB
          refine .q 5 hG ?_ -- @ macaroonref06.Decode 15.2 15.3 s s 16.0
          refine .km hG (rNum_c _ (prNum (prNum ⟨b, 0, 0⟩).2).2 ok2) (.s .z) (by rintro _ _ ⟨_, rfl⟩; exact ⟨_, rfl⟩) fun r46 B46 hr46 => ?_ -- @ macaroonref06.Decode 16.1
          obtain ⟨rfl, hB⟩ := hr46
          cases hB
          refine .q 5 hG ?_ -- @ macaroonref06.Decode 16.2 16.3 s s s
          have hq := decB_t (k := (prNum ⟨b, 0, 0⟩).1) (r := (prNum ⟨b, 0, 0⟩).2) (by dsimp only at *; omega)
          have hkk : ¬ ((prNum ⟨b, 0, 0⟩).1 < 1 ∨ 7 < (prNum ⟨b, 0, 0⟩).1) := (by dsimp only at *; omega)
          refine .q 2 hG ?_ -- @ macaroonref06.Decode s 21.0
          refine .k hG (rPredValid_c _) ?_ -- @ macaroonref06.Decode 21.1
          refine .q 2 hG ?_ -- @ macaroonref06.Decode 21.2 s
          refine .cond (.t rfl) (fun hc61 => ?_) (fun hc61 => ?_)
          · refine .q 2 hG ?_ -- @ macaroonref06.Decode s 22.0
            refine .km hG (Fail_rd _ _ _) (.s .z) (by rintro _ _ rfl; exact ⟨_, rfl⟩) fun r63 B63 hr63 => ?_ -- @ macaroonref06.Decode 22.1
            cases hr63
            refine .q 11 hG ⟨fun hc68 => ?_, fun hc68 => ?_⟩ -- @ macaroonref06.Decode s s s s 23.0 23.1 23.2 23.3 23.4 s c68
            · refine .q 1 hG ?_ -- @ macaroonref06.Decode s
              refine .drawCF [false, false, true] (by kernel_rfl) 8 [[], [], [(70, 1)], [(71, 2)], [(72, 3)], [(69, 0)], [], [(73, 4)]] [5] rfl (by kernel_rfl) rfl (by kernel_rfl) (by decide) ?_
              refine ⟨_, fun H => OpP.bS0 (α := G_api_Predicate) rfl ty24 fo24 rfl, ?_⟩
              refine ⟨_, fun H => OpP.move (.t rfl) rfl, ?_⟩
              refine ⟨_, fun H => OpP.nilCheckL (.t rfl) rfl, ?_⟩
              refine ⟨_, fun H => OpP.fldW G_macaroonref06_Reader.l2 fd58_2 rfl (.t rfl) rfl, ?_⟩
              refine ⟨_, fun H => OpP.ldF (fun x => x.E) ty27 (.t rfl) (Hole.app (.s .z)) (fun _ => rfl) rfl, ?_⟩
              refine .inl ?_
              refine ⟨_, fun H => OpP.assign (.i rfl) rfl, ?_⟩
              refine ⟨_, fun H => OpP.assign (.t rfl) rfl, ?_⟩
              refine ⟨⟨([], fun k => List.getD [(true, .none_), (true, .none_), _] k (true, .none_)), rfl⟩, ?_⟩
              refine OpH.stW ty24 (.t rfl) (.t rfl) (.s (.s .z)) ?_
              refine ⟨⟨([], fun k => List.getD [(true, .none_), (true, .none_), _] k (true, .none_)), rfl⟩, ?_⟩
              show wpB _ _ _ _ _ [] ((4, _) :: (3, _) :: (73, _) :: (72, _) :: (71, _) :: (70, _) :: (69, _) :: _) _
              refine .q 2 hG ?_ -- @ macaroonref06.Decode s s
              refine ⟨_, .r3 rfl (.cell ty24 rfl (.s (.s .z))) (.tmp rfl) (.tmp rfl), ?_⟩
              first | (rw [(end_bad (b := b) (fun c => c he) hkk hq hc61).1]; done) | (rw [end_err (b := b) (fun c => c he) hkk hq hc68]; done) | (rw [(end_def hkd).1]; done) | (exfalso; have hz := predOk_of (by simpa using hc61); have hz := hz.kind; dsimp only at hz; omega)
            · refine .q 2 hG ?_ -- @ macaroonref06.Decode s s
              refine .drawCF [false, false, true] (by kernel_rfl) 8 [[], [], [(75, 1)], [(76, 2)], [(77, 3)], [(74, 0)], [(78, 4)], []] [5] rfl (by kernel_rfl) rfl (by kernel_rfl) (by decide) ?_
              refine ⟨_, fun H => OpP.ldW ty24 (.t rfl) (Hole.app .z) rfl, ?_⟩
              refine ⟨_, fun H => OpP.move (.t rfl) rfl, ?_⟩
              refine ⟨_, fun H => OpP.nilCheckL (.t rfl) rfl, ?_⟩
              refine ⟨_, fun H => OpP.fldW G_macaroonref06_Reader.l1 fd58_1 rfl (.t rfl) rfl, ?_⟩
              refine ⟨_, fun H => OpP.ldF (fun x => x.Used) ty3 (.t rfl) (Hole.app (.s .z)) (fun _ => rfl) rfl, ?_⟩
              refine .inl ?_
              refine ⟨_, fun H => OpP.assign (.t rfl) rfl, ?_⟩
              refine ⟨_, fun H => OpP.assign (.i rfl) rfl, ?_⟩
              refine ⟨⟨([], fun k => List.getD [(true, .none_), (true, .none_), _] k (true, .none_)), rfl⟩, ?_⟩
              refine OpH.stW ty24 (.t rfl) (.t rfl) (.s (.s .z)) ?_
              refine ⟨⟨([], fun k => List.getD [(true, .none_), (true, .none_), _] k (true, .none_)), rfl⟩, ?_⟩
              show wpB _ _ _ _ _ [] ((4, _) :: (3, _) :: (78, _) :: (77, _) :: (76, _) :: (75, _) :: (74, _) :: _) _
              refine .q 2 hG ?_ -- @ macaroonref06.Decode s s
              refine ⟨_, .r3 rfl (.cell ty24 rfl (.s (.s .z))) (.tmp rfl) (.tmp rfl), ?_⟩
              first | (rw [end_ok (b := b) (fun c => c he) hkk hq hc68 hc61]; done) | (rw [end_ok (b := b) (fun c => c he) hkk hq hc68 hc61]; rfl) | (exact absurd (end_bad (b := b) (fun c => c he) hkk hq hc61).2 hc68) | (exact absurd (end_def hkd).2 hc68) | (exfalso; have hz := predOk_of (by simpa using hc61); have hz := hz.kind; dsimp only at hz; omega)
          · refine .q 11 hG ⟨fun hc68 => ?_, fun hc68 => ?_⟩ -- @ macaroonref06.Decode s s s s 23.0 23.1 23.2 23.3 23.4 s c68
            · refine .q 1 hG ?_ -- @ macaroonref06.Decode s
              refine .drawCF [false, false, true] (by kernel_rfl) 8 [[], [], [(70, 1)], [(71, 2)], [(72, 3)], [(69, 0)], [], [(73, 4)]] [5] rfl (by kernel_rfl) rfl (by kernel_rfl) (by decide) ?_
              refine ⟨_, fun H => OpP.bS0 (α := G_api_Predicate) rfl ty24 fo24 rfl, ?_⟩
              refine ⟨_, fun H => OpP.move (.t rfl) rfl, ?_⟩
              refine ⟨_, fun H => OpP.nilCheckL (.t rfl) rfl, ?_⟩
              refine ⟨_, fun H => OpP.fldW G_macaroonref06_Reader.l2 fd58_2 rfl (.t rfl) rfl, ?_⟩
              refine ⟨_, fun H => OpP.ldF (fun x => x.E) ty27 (.t rfl) (Hole.app (.s .z)) (fun _ => rfl) rfl, ?_⟩
              refine .inl ?_
              refine ⟨_, fun H => OpP.assign (.i rfl) rfl, ?_⟩
              refine ⟨_, fun H => OpP.assign (.t rfl) rfl, ?_⟩
              refine ⟨⟨([], fun k => List.getD [(true, .none_), (true, .none_), _] k (true, .none_)), rfl⟩, ?_⟩
              refine OpH.stW ty24 (.t rfl) (.t rfl) (.s (.s .z)) ?_
              refine ⟨⟨([], fun k => List.getD [(true, .none_), (true, .none_), _] k (true, .none_)), rfl⟩, ?_⟩
              show wpB _ _ _ _ _ [] ((4, _) :: (3, _) :: (73, _) :: (72, _) :: (71, _) :: (70, _) :: (69, _) :: _) _
              refine .q 2 hG ?_ -- @ macaroonref06.Decode s s
              refine ⟨_, .r3 rfl (.cell ty24 rfl (.s (.s .z))) (.tmp rfl) (.tmp rfl), ?_⟩
              first | (rw [(end_bad (b := b) (fun c => c he) hkk hq hc61).1]; done) | (rw [end_err (b := b) (fun c => c he) hkk hq hc68]; done) | (rw [(end_def hkd).1]; done) | (exfalso; have hz := predOk_of (by simpa using hc61); have hz := hz.kind; dsimp only at hz; omega)
            · refine .q 2 hG ?_ -- @ macaroonref06.Decode s s
              refine .drawCF [false, false, true] (by kernel_rfl) 8 [[], [], [(75, 1)], [(76, 2)], [(77, 3)], [(74, 0)], [(78, 4)], []] [5] rfl (by kernel_rfl) rfl (by kernel_rfl) (by decide) ?_
              refine ⟨_, fun H => OpP.ldW ty24 (.t rfl) (Hole.app .z) rfl, ?_⟩
              refine ⟨_, fun H => OpP.move (.t rfl) rfl, ?_⟩
              refine ⟨_, fun H => OpP.nilCheckL (.t rfl) rfl, ?_⟩
              refine ⟨_, fun H => OpP.fldW G_macaroonref06_Reader.l1 fd58_1 rfl (.t rfl) rfl, ?_⟩
              refine ⟨_, fun H => OpP.ldF (fun x => x.Used) ty3 (.t rfl) (Hole.app (.s .z)) (fun _ => rfl) rfl, ?_⟩
              refine .inl ?_
              refine ⟨_, fun H => OpP.assign (.t rfl) rfl, ?_⟩
              refine ⟨_, fun H => OpP.assign (.i rfl) rfl, ?_⟩
              refine ⟨⟨([], fun k => List.getD [(true, .none_), (true, .none_), _] k (true, .none_)), rfl⟩, ?_⟩
              refine OpH.stW ty24 (.t rfl) (.t rfl) (.s (.s .z)) ?_
              refine ⟨⟨([], fun k => List.getD [(true, .none_), (true, .none_), _] k (true, .none_)), rfl⟩, ?_⟩
              show wpB _ _ _ _ _ [] ((4, _) :: (3, _) :: (78, _) :: (77, _) :: (76, _) :: (75, _) :: (74, _) :: _) _
              refine .q 2 hG ?_ -- @ macaroonref06.Decode s s
              refine ⟨_, .r3 rfl (.cell ty24 rfl (.s (.s .z))) (.tmp rfl) (.tmp rfl), ?_⟩
              first | (rw [end_ok (b := b) (fun c => c he) hkk hq hc68 hc61]; done) | (rw [end_ok (b := b) (fun c => c he) hkk hq hc68 hc61]; rfl) | (exact absurd (end_bad (b := b) (fun c => c he) hkk hq hc61).2 hc68) | (exact absurd (end_def hkd).2 hc68) | (exfalso; have hz := predOk_of (by simpa using hc61); have hz := hz.kind; dsimp only at hz; omega)
        · refine .q 5 hG ⟨fun hc39 => ?_, fun hc39 => ?_⟩ -- @ macaroonref06.Decode s 14.0 14.1 s c39
          · refine .q 1 hG ?_ -- @ macaroonref06.Decode s
            have he : (prNum ⟨b, 0, 0⟩).2.e = 0 := (Decidable.byContradiction fun c => by have := hbad c; dsimp only at *; omega)
            refine .q 2 hG ?_ -- @ macaroonref06.Decode s 15.0
            refine .km hG (rNum_c _ (prNum ⟨b, 0, 0⟩).2 ok1) (.s .z) (by rintro _ _ ⟨_, rfl⟩; exact ⟨_, rfl⟩) fun r43 B43 hr43 => ?_ -- @ macaroonref06.Decode 15.1
            obtain ⟨rfl, hB⟩ := hr43
            cases hB
            refine .q 5 hG ?_ -- @ macaroonref06.Decode 15.2 15.3 s s 16.0
            refine .km hG (rNum_c _ (prNum (prNum ⟨b, 0, 0⟩).2).2 ok2) (.s .z) (by rintro _ _ ⟨_, rfl⟩; exact ⟨_, rfl⟩) fun r46 B46 hr46 => ?_ -- @ macaroonref06.Decode 16.1
            obtain ⟨rfl, hB⟩ := hr46
            cases hB
            refine .q 5 hG ?_ -- @ macaroonref06.Decode 16.2 16.3 s s s
            have hq := decB_t (k := (prNum ⟨b, 0, 0⟩).1) (r := (prNum ⟨b, 0, 0⟩).2) (by dsimp only at *; omega)
            have hkk : ¬ ((prNum ⟨b, 0, 0⟩).1 < 1 ∨ 7 < (prNum ⟨b, 0, 0⟩).1) := (by dsimp only at *; omega)
            refine .q 2 hG ?_ -- @ macaroonref06.Decode s 21.0
            refine .k hG (rPredValid_c _) ?_ -- @ macaroonref06.Decode 21.1
            refine .q 2 hG ?_ -- @ macaroonref06.Decode 21.2 s
            refine .cond (.t rfl) (fun hc61 => ?_) (fun hc61 => ?_)
            · refine .q 2 hG ?_ -- @ macaroonref06.Decode s 22.0
              refine .km hG (Fail_rd _ _ _) (.s .z) (by rintro _ _ rfl; exact ⟨_, rfl⟩) fun r63 B63 hr63 => ?_ -- @ macaroonref06.Decode 22.1
              cases hr63
              refine .q 11 hG ⟨fun hc68 => ?_, fun hc68 => ?_⟩ -- @ macaroonref06.Decode s s s s 23.0 23.1 23.2 23.3 23.4 s c68
              · refine .q 1 hG ?_ -- @ macaroonref06.Decode s
                refine .drawCF [false, false, true] (by kernel_rfl) 8 [[], [], [(70, 1)], [(71, 2)], [(72, 3)], [(69, 0)], [], [(73, 4)]] [5] rfl (by kernel_rfl) rfl (by kernel_rfl) (by decide) ?_
                refine ⟨_, fun H => OpP.bS0 (α := G_api_Predicate) rfl ty24 fo24 rfl, ?_⟩
                refine ⟨_, fun H => OpP.move (.t rfl) rfl, ?_⟩
                refine ⟨_, fun H => OpP.nilCheckL (.t rfl) rfl, ?_⟩
                refine ⟨_, fun H => OpP.fldW G_macaroonref06_Reader.l2 fd58_2 rfl (.t rfl) rfl, ?_⟩
                refine ⟨_, fun H => OpP.ldF (fun x => x.E) ty27 (.t rfl) (Hole.app (.s .z)) (fun _ => rfl) rfl, ?_⟩
                refine .inl ?_
                refine ⟨_, fun H => OpP.assign (.i rfl) rfl, ?_⟩
                refine ⟨_, fun H => OpP.assign (.t rfl) rfl, ?_⟩
                refine ⟨⟨([], fun k => List.getD [(true, .none_), (true, .none_), _] k (true, .none_)), rfl⟩, ?_⟩
                refine OpH.stW ty24 (.t rfl) (.t rfl) (.s (.s .z)) ?_
                refine ⟨⟨([], fun k => List.getD [(true, .none_), (true, .none_), _] k (true, .none_)), rfl⟩, ?_⟩
                show wpB _ _ _ _ _ [] ((4, _) :: (3, _) :: (73, _) :: (72, _) :: (71, _) :: (70, _) :: (69, _) :: _) _
                refine .q 2 hG ?_ -- @ macaroonref06.Decode s s
                refine ⟨_, .r3 rfl (.cell ty24 rfl (.s (.s .z))) (.tmp rfl) (.tmp rfl), ?_⟩
                first | (rw [(end_bad (b := b) (fun c => c he) hkk hq hc61).1]; done) | (rw [end_err (b := b) (fun c => c he) hkk hq hc68]; done) | (rw [(end_def hkd).1]; done) | (exfalso; have hz := predOk_of (by simpa using hc61); have hz := hz.kind; dsimp only at hz; omega)
              · refine .q 2 hG ?_ -- @ macaroonref06.Decode s s
                refine .drawCF [false, false, true] (by kernel_rfl) 8 [[], [], [(75, 1)], [(76, 2)], [(77, 3)], [(74, 0)], [(78, 4)], []] [5] rfl (by kernel_rfl) rfl (by kernel_rfl) (by decide) ?_
                refine ⟨_, fun H => OpP.ldW ty24 (.t rfl) (Hole.app .z) rfl, ?_⟩
                refine ⟨_, fun H => OpP.move (.t rfl) rfl, ?_⟩
                refine ⟨_, fun H => OpP.nilCheckL (.t rfl) rfl, ?_⟩
                refine ⟨_, fun H => OpP.fldW G_macaroonref06_Reader.l1 fd58_1 rfl (.t rfl) rfl, ?_⟩
                refine ⟨_, fun H => OpP.ldF (fun x => x.Used) ty3 (.t rfl) (Hole.app (.s .z)) (fun _ => rfl) rfl, ?_⟩
                refine .inl ?_
                refine ⟨_, fun H => OpP.assign (.t rfl) rfl, ?_⟩
                refine ⟨_, fun H => OpP.assign (.i rfl) rfl, ?_⟩
                refine ⟨⟨([], fun k => List.getD [(true, .none_), (true, .none_), _] k (true, .none_)), rfl⟩, ?_⟩
                refine OpH.stW ty24 (.t rfl) (.t rfl) (.s (.s .z)) ?_
                refine ⟨⟨([], fun k => List.getD [(true, .none_), (true, .none_), _] k (true, .none_)), rfl⟩, ?_⟩
                show wpB _ _ _ _ _ [] ((4, _) :: (3, _) :: (78, _) :: (77, _) :: (76, _) :: (75, _) :: (74, _) :: _) _
                refine .q 2 hG ?_ -- @ macaroonref06.Decode s s
                refine ⟨_, .r3 rfl (.cell ty24 rfl (.s (.s .z))) (.tmp rfl) (.tmp rfl), ?_⟩
                first | (rw [end_ok (b := b) (fun c => c he) hkk hq hc68 hc61]; done) | (rw [end_ok (b := b) (fun c => c he) hkk hq hc68 hc61]; rfl) | (exact absurd (end_bad (b := b) (fun c => c he) hkk hq hc61).2 hc68) | (exact absurd (end_def hkd).2 hc68) | (exfalso; have hz := predOk_of (by simpa using hc61); have hz := hz.kind; dsimp only at hz; omega)
            · refine .q 11 hG ⟨fun hc68 => ?_, fun hc68 => ?_⟩ -- @ macaroonref06.Decode s s s s 23.0 23.1 23.2 23.3 23.4 s c68
              · refine .q 1 hG ?_ -- @ macaroonref06.Decode s
                refine .drawCF [false, false, true] (by kernel_rfl) 8 [[], [], [(70, 1)], [(71, 2)], [(72, 3)], [(69, 0)], [], [(73, 4)]] [5] rfl (by kernel_rfl) rfl (by kernel_rfl) (by decide) ?_
                refine ⟨_, fun H => OpP.bS0 (α := G_api_Predicate) rfl ty24 fo24 rfl, ?_⟩
                refine ⟨_, fun H => OpP.move (.t rfl) rfl, ?_⟩
                refine ⟨_, fun H => OpP.nilCheckL (.t rfl) rfl, ?_⟩
                refine ⟨_, fun H => OpP.fldW G_macaroonref06_Reader.l2 fd58_2 rfl (.t rfl) rfl, ?_⟩
                refine ⟨_, fun H => OpP.ldF (fun x => x.E) ty27 (.t rfl) (Hole.app (.s .z)) (fun _ => rfl) rfl, ?_⟩
                refine .inl ?_
                refine ⟨_, fun H => OpP.assign (.i rfl) rfl, ?_⟩
                refine ⟨_, fun H => OpP.assign (.t rfl) rfl, ?_⟩
                refine ⟨⟨([], fun k => List.getD [(true, .none_), (true, .none_), _] k (true, .none_)), rfl⟩, ?_⟩
                refine OpH.stW ty24 (.t rfl) (.t rfl) (.s (.s .z)) ?_
                refine ⟨⟨([], fun k => List.getD [(true, .none_), (true, .none_), _] k (true, .none_)), rfl⟩, ?_⟩
                show wpB _ _ _ _ _ [] ((4, _) :: (3, _) :: (73, _) :: (72, _) :: (71, _) :: (70, _) :: (69, _) :: _) _
                refine .q 2 hG ?_ -- @ macaroonref06.Decode s s
                refine ⟨_, .r3 rfl (.cell ty24 rfl (.s (.s .z))) (.tmp rfl) (.tmp rfl), ?_⟩
                first | (rw [(end_bad (b := b) (fun c => c he) hkk hq hc61).1]; done) | (rw [end_err (b := b) (fun c => c he) hkk hq hc68]; done) | (rw [(end_def hkd).1]; done) | (exfalso; have hz := predOk_of (by simpa using hc61); have hz := hz.kind; dsimp only at hz; omega)
              · refine .q 2 hG ?_ -- @ macaroonref06.Decode s s
                refine .drawCF [false, false, true] (by kernel_rfl) 8 [[], [], [(75, 1)], [(76, 2)], [(77, 3)], [(74, 0)], [(78, 4)], []] [5] rfl (by kernel_rfl) rfl (by kernel_rfl) (by decide) ?_
                refine ⟨_, fun H => OpP.ldW ty24 (.t rfl) (Hole.app .z) rfl, ?_⟩
                refine ⟨_, fun H => OpP.move (.t rfl) rfl, ?_⟩
                refine ⟨_, fun H => OpP.nilCheckL (.t rfl) rfl, ?_⟩
                refine ⟨_, fun H => OpP.fldW G_macaroonref06_Reader.l1 fd58_1 rfl (.t rfl) rfl, ?_⟩
                refine ⟨_, fun H => OpP.ldF (fun x => x.Used) ty3 (.t rfl) (Hole.app (.s .z)) (fun _ => rfl) rfl, ?_⟩
                refine .inl ?_
                refine ⟨_, fun H => OpP.assign (.t rfl) rfl, ?_⟩
                refine ⟨_, fun H => OpP.assign (.i rfl) rfl, ?_⟩
                refine ⟨⟨([], fun k => List.getD [(true, .none_), (true, .none_), _] k (true, .none_)), rfl⟩, ?_⟩
                refine OpH.stW ty24 (.t rfl) (.t rfl) (.s (.s .z)) ?_
                refine ⟨⟨([], fun k => List.getD [(true, .none_), (true, .none_), _] k (true, .none_)), rfl⟩, ?_⟩
                show wpB _ _ _ _ _ [] ((4, _) :: (3, _) :: (78, _) :: (77, _) :: (76, _) :: (75, _) :: (74, _) :: _) _
                refine .q 2 hG ?_ -- @ macaroonref06.Decode s s
                refine ⟨_, .r3 rfl (.cell ty24 rfl (.s (.s .z))) (.tmp rfl) (.tmp rfl), ?_⟩
                first | (rw [end_ok (b := b) (fun c => c he) hkk hq hc68 hc61]; done) | (rw [end_ok (b := b) (fun c => c he) hkk hq hc68 hc61]; rfl) | (exact absurd (end_bad (b := b) (fun c => c he) hkk hq hc61).2 hc68) | (exact absurd (end_def hkd).2 hc68) | (exfalso; have hz := predOk_of (by simpa using hc61); have hz := hz.kind; dsimp only at hz; omega)
          · refine .q 6 hG ⟨fun hc48 => ?_, fun hc48 => ?_⟩ -- @ macaroonref06.Decode s s 17.0 17.1 s c48
            · have he : (prNum ⟨b, 0, 0⟩).2.e = 0 := (Decidable.byContradiction fun c => by have := hbad c; dsimp only at *; omega)
              refine .q 2 hG ?_ -- @ macaroonref06.Decode s 18.0
              refine .km hG (rFieldN_c _ (prNum ⟨b, 0, 0⟩).2 ok1 he) (.s .z) (by rintro _ _ ⟨_, rfl⟩; exact ⟨_, rfl⟩) fun r51 B51 hr51 => ?_ -- @ macaroonref06.Decode 18.1
              obtain ⟨rfl, hB⟩ := hr51
              cases hB
              refine .p (.bytesStr Tryz.underlying25 Tryz.underlying5 Tryz.underlying9 (.t rfl) ?_)
              refine .q 5 hG ?_ -- @ macaroonref06.Decode 18.3 18.4 s s s
              have hq := decB_n (k := (prNum ⟨b, 0, 0⟩).1) (r := (prNum ⟨b, 0, 0⟩).2) (by dsimp only at *; omega)
              have hkk : ¬ ((prNum ⟨b, 0, 0⟩).1 < 1 ∨ 7 < (prNum ⟨b, 0, 0⟩).1) := (by dsimp only at *; omega)
              refine .q 2 hG ?_ -- @ macaroonref06.Decode s 21.0
              refine .k hG (rPredValid_c _) ?_ -- @ macaroonref06.Decode 21.1
              refine .q 2 hG ?_ -- @ macaroonref06.Decode 21.2 s
              refine .cond (.t rfl) (fun hc61 => ?_) (fun hc61 => ?_)
              · refine .q 2 hG ?_ -- @ macaroonref06.Decode s 22.0
                refine .km hG (Fail_rd _ _ _) (.s .z) (by rintro _ _ rfl; exact ⟨_, rfl⟩) fun r63 B63 hr63 => ?_ -- @ macaroonref06.Decode 22.1
                cases hr63
                refine .q 11 hG ⟨fun hc68 => ?_, fun hc68 => ?_⟩ -- @ macaroonref06.Decode s s s s 23.0 23.1 23.2 23.3 23.4 s c68
                · refine .q 1 hG ?_ -- @ macaroonref06.Decode s
                  refine .drawCF [false, false, true] (by kernel_rfl) 8 [[], [], [(70, 1)], [(71, 2)], [(72, 3)], [(69, 0)], [], [(73, 4)]] [5] rfl (by kernel_rfl) rfl (by kernel_rfl) (by decide) ?_
                  refine ⟨_, fun H => OpP.bS0 (α := G_api_Predicate) rfl ty24 fo24 rfl, ?_⟩
                  refine ⟨_, fun H => OpP.move (.t rfl) rfl, ?_⟩
                  refine ⟨_, fun H => OpP.nilCheckL (.t rfl) rfl, ?_⟩
                  refine ⟨_, fun H => OpP.fldW G_macaroonref06_Reader.l2 fd58_2 rfl (.t rfl) rfl, ?_⟩
                  refine ⟨_, fun H => OpP.ldF (fun x => x.E) ty27 (.t rfl) (Hole.app (.s .z)) (fun _ => rfl) rfl, ?_⟩
                  refine .inl ?_
                  refine ⟨_, fun H => OpP.assign (.i rfl) rfl, ?_⟩
                  refine ⟨_, fun H => OpP.assign (.t rfl) rfl, ?_⟩
                  refine ⟨⟨([], fun k => List.getD [(true, .none_), (true, .none_), _] k (true, .none_)), rfl⟩, ?_⟩
                  refine OpH.stW ty24 (.t rfl) (.t rfl) (.s (.s .z)) ?_
                  refine ⟨⟨([], fun k => List.getD [(true, .none_), (true, .none_), _] k (true, .none_)), rfl⟩, ?_⟩
                  show wpB _ _ _ _ _ [] ((4, _) :: (3, _) :: (73, _) :: (72, _) :: (71, _) :: (70, _) :: (69, _) :: _) _
                  refine .q 2 hG ?_ -- @ macaroonref06.Decode s s
                  refine ⟨_, .r3 rfl (.cell ty24 rfl (.s (.s .z))) (.tmp rfl) (.tmp rfl), ?_⟩
                  first | (rw [(end_bad (b := b) (fun c => c he) hkk hq hc61).1]; done) | (rw [end_err (b := b) (fun c => c he) hkk hq hc68]; done) | (rw [(end_def hkd).1]; done) | (exfalso; have hz := predOk_of (by simpa using hc61); have hz := hz.kind; dsimp only at hz; omega)
                · refine .q 2 hG ?_ -- @ macaroonref06.Decode s s
                  refine .drawCF [false, false, true] (by kernel_rfl) 8 [[], [], [(75, 1)], [(76, 2)], [(77, 3)], [(74, 0)], [(78, 4)], []] [5] rfl (by kernel_rfl) rfl (by kernel_rfl) (by decide) ?_
                  refine ⟨_, fun H => OpP.ldW ty24 (.t rfl) (Hole.app .z) rfl, ?_⟩
                  refine ⟨_, fun H => OpP.move (.t rfl) rfl, ?_⟩
                  refine ⟨_, fun H => OpP.nilCheckL (.t rfl) rfl, ?_⟩
                  refine ⟨_, fun H => OpP.fldW G_macaroonref06_Reader.l1 fd58_1 rfl (.t rfl) rfl, ?_⟩
                  refine ⟨_, fun H => OpP.ldF (fun x => x.Used) ty3 (.t rfl) (Hole.app (.s .z)) (fun _ => rfl) rfl, ?_⟩
                  refine .inl ?_
                  refine ⟨_, fun H => OpP.assign (.t rfl) rfl, ?_⟩
                  refine ⟨_, fun H => OpP.assign (.i rfl) rfl, ?_⟩
                  refine ⟨⟨([], fun k => List.getD [(true, .none_), (true, .none_), _] k (true, .none_)), rfl⟩, ?_⟩
                  refine OpH.stW ty24 (.t rfl) (.t rfl) (.s (.s .z)) ?_
                  refine ⟨⟨([], fun k => List.getD [(true, .none_), (true, .none_), _] k (true, .none_)), rfl⟩, ?_⟩
                  show wpB _ _ _ _ _ [] ((4, _) :: (3, _) :: (78, _) :: (77, _) :: (76, _) :: (75, _) :: (74, _) :: _) _
                  refine .q 2 hG ?_ -- @ macaroonref06.Decode s s
                  refine ⟨_, .r3 rfl (.cell ty24 rfl (.s (.s .z))) (.tmp rfl) (.tmp rfl), ?_⟩
                  first | (rw [end_ok (b := b) (fun c => c he) hkk hq hc68 hc61]; done) | (rw [end_ok (b := b) (fun c => c he) hkk hq hc68 hc61]; rfl) | (exact absurd (end_bad (b := b) (fun c => c he) hkk hq hc61).2 hc68) | (exact absurd (end_def hkd).2 hc68) | (exfalso; have hz := predOk_of (by simpa using hc61); have hz := hz.kind; dsimp only at hz; omega)
              · refine .q 11 hG ⟨fun hc68 => ?_, fun hc68 => ?_⟩ -- @ macaroonref06.Decode s s s s 23.0 23.1 23.2 23.3 23.4 s c68
                · refine .q 1 hG ?_ -- @ macaroonref06.Decode s
                  refine .drawCF [false, false, true] (by kernel_rfl) 8 [[], [], [(70, 1)], [(71, 2)], [(72, 3)], [(69, 0)], [], [(73, 4)]] [5] rfl (by kernel_rfl) rfl (by kernel_rfl) (by decide) ?_
                  refine ⟨_, fun H => OpP.bS0 (α := G_api_Predicate) rfl ty24 fo24 rfl, ?_⟩
                  refine ⟨_, fun H => OpP.move (.t rfl) rfl, ?_⟩
                  refine ⟨_, fun H => OpP.nilCheckL (.t rfl) rfl, ?_⟩
                  refine ⟨_, fun H => OpP.fldW G_macaroonref06_Reader.l2 fd58_2 rfl (.t rfl) rfl, ?_⟩
                  refine ⟨_, fun H => OpP.ldF (fun x => x.E) ty27 (.t rfl) (Hole.app (.s .z)) (fun _ => rfl) rfl, ?_⟩
                  refine .inl ?_
                  refine ⟨_, fun H => OpP.assign (.i rfl) rfl, ?_⟩
                  refine ⟨_, fun H => OpP.assign (.t rfl) rfl, ?_⟩
                  refine ⟨⟨([], fun k => List.getD [(true, .none_), (true, .none_), _] k (true, .none_)), rfl⟩, ?_⟩
                  refine OpH.stW ty24 (.t rfl) (.t rfl) (.s (.s .z)) ?_
                  refine ⟨⟨([], fun k => List.getD [(true, .none_), (true, .none_), _] k (true, .none_)), rfl⟩, ?_⟩
                  show wpB _ _ _ _ _ [] ((4, _) :: (3, _) :: (73, _) :: (72, _) :: (71, _) :: (70, _) :: (69, _) :: _) _
                  refine .q 2 hG ?_ -- @ macaroonref06.Decode s s
                  refine ⟨_, .r3 rfl (.cell ty24 rfl (.s (.s .z))) (.tmp rfl) (.tmp rfl), ?_⟩
                  first | (rw [(end_bad (b := b) (fun c => c he) hkk hq hc61).1]; done) | (rw [end_err (b := b) (fun c => c he) hkk hq hc68]; done) | (rw [(end_def hkd).1]; done) | (exfalso; have hz := predOk_of (by simpa using hc61); have hz := hz.kind; dsimp only at hz; omega)
                · refine .q 2 hG ?_ -- @ macaroonref06.Decode s s
                  refine .drawCF [false, false, true] (by kernel_rfl) 8 [[], [], [(75, 1)], [(76, 2)], [(77, 3)], [(74, 0)], [(78, 4)], []] [5] rfl (by kernel_rfl) rfl (by kernel_rfl) (by decide) ?_
                  refine ⟨_, fun H => OpP.ldW ty24 (.t rfl) (Hole.app .z) rfl, ?_⟩
                  refine ⟨_, fun H => OpP.move (.t rfl) rfl, ?_⟩
                  refine ⟨_, fun H => OpP.nilCheckL (.t rfl) rfl, ?_⟩
                  refine ⟨_, fun H => OpP.fldW G_macaroonref06_Reader.l1 fd58_1 rfl (.t rfl) rfl, ?_⟩
                  refine ⟨_, fun H => OpP.ldF (fun x => x.Used) ty3 (.t rfl) (Hole.app (.s .z)) (fun _ => rfl) rfl, ?_⟩
                  refine .inl ?_
                  refine ⟨_, fun H => OpP.assign (.t rfl) rfl, ?_⟩
                  refine ⟨_, fun H => OpP.assign (.i rfl) rfl, ?_⟩
                  refine ⟨⟨([], fun k => List.getD [(true, .none_), (true, .none_), _] k (true, .none_)), rfl⟩, ?_⟩
                  refine OpH.stW ty24 (.t rfl) (.t rfl) (.s (.s .z)) ?_
                  refine ⟨⟨([], fun k => List.getD [(true, .none_), (true, .none_), _] k (true, .none_)), rfl⟩, ?_⟩
                  show wpB _ _ _ _ _ [] ((4, _) :: (3, _) :: (78, _) :: (77, _) :: (76, _) :: (75, _) :: (74, _) :: _) _
                  refine .q 2 hG ?_ -- @ macaroonref06.Decode s s
                  refine ⟨_, .r3 rfl (.cell ty24 rfl (.s (.s .z))) (.tmp rfl) (.tmp rfl), ?_⟩
                  first | (rw [end_ok (b := b) (fun c => c he) hkk hq hc68 hc61]; done) | (rw [end_ok (b := b) (fun c => c he) hkk hq hc68 hc61]; rfl) | (exact absurd (end_bad (b := b) (fun c => c he) hkk hq hc61).2 hc68) | (exact absurd (end_def hkd).2 hc68) | (exfalso; have hz := predOk_of (by simpa using hc61); have hz := hz.kind; dsimp only at hz; omega)
            · refine .q 6 hG ⟨fun hc54 => ?_, fun hc54 => ?_⟩ -- @ macaroonref06.Decode s s 19.0 19.1 s c54
              · have he : (prNum ⟨b, 0, 0⟩).2.e = 0 := (Decidable.byContradiction fun c => by have := hbad c; dsimp only at *; omega)
                refine .q 2 hG ?_ -- @ macaroonref06.Decode s 20.0
                refine .km hG (rNum_c _ (prNum ⟨b, 0, 0⟩).2 ok1) (.s .z) (by rintro _ _ ⟨_, rfl⟩; exact ⟨_, rfl⟩) fun r57 B57 hr57 => ?_ -- @ macaroonref06.Decode 20.1
                obtain ⟨rfl, hB⟩ := hr57
                cases hB
                refine .q 5 hG ?_ -- @ macaroonref06.Decode 20.2 20.3 s s s
                have hq := decB_r (k := (prNum ⟨b, 0, 0⟩).1) (r := (prNum ⟨b, 0, 0⟩).2) (by dsimp only at *; omega)
                have hkk : ¬ ((prNum ⟨b, 0, 0⟩).1 < 1 ∨ 7 < (prNum ⟨b, 0, 0⟩).1) := (by dsimp only at *; omega)
                refine .q 2 hG ?_ -- @ macaroonref06.Decode s 21.0
                refine .k hG (rPredValid_c _) ?_ -- @ macaroonref06.Decode 21.1
                refine .q 2 hG ?_ -- @ macaroonref06.Decode 21.2 s
                refine .cond (.t rfl) (fun hc61 => ?_) (fun hc61 => ?_)
                · refine .q 2 hG ?_ -- @ macaroonref06.Decode s 22.0
                  refine .km hG (Fail_rd _ _ _) (.s .z) (by rintro _ _ rfl; exact ⟨_, rfl⟩) fun r63 B63 hr63 => ?_ -- @ macaroonref06.Decode 22.1
                  cases hr63
                  refine .q 11 hG ⟨fun hc68 => ?_, fun hc68 => ?_⟩ -- @ macaroonref06.Decode s s s s 23.0 23.1 23.2 23.3 23.4 s c68
                  · refine .q 1 hG ?_ -- @ macaroonref06.Decode s
                    refine .drawCF [false, false, true] (by kernel_rfl) 8 [[], [], [(70, 1)], [(71, 2)], [(72, 3)], [(69, 0)], [], [(73, 4)]] [5] rfl (by kernel_rfl) rfl (by kernel_rfl) (by decide) ?_
                    refine ⟨_, fun H => OpP.bS0 (α := G_api_Predicate) rfl ty24 fo24 rfl, ?_⟩
                    refine ⟨_, fun H => OpP.move (.t rfl) rfl, ?_⟩
                    refine ⟨_, fun H => OpP.nilCheckL (.t rfl) rfl, ?_⟩
                    refine ⟨_, fun H => OpP.fldW G_macaroonref06_Reader.l2 fd58_2 rfl (.t rfl) rfl, ?_⟩
                    refine ⟨_, fun H => OpP.ldF (fun x => x.E) ty27 (.t rfl) (Hole.app (.s .z)) (fun _ => rfl) rfl, ?_⟩
                    refine .inl ?_
                    refine ⟨_, fun H => OpP.assign (.i rfl) rfl, ?_⟩
                    refine ⟨_, fun H => OpP.assign (.t rfl) rfl, ?_⟩
                    refine ⟨⟨([], fun k => List.getD [(true, .none_), (true, .none_), _] k (true, .none_)), rfl⟩, ?_⟩
                    refine OpH.stW ty24 (.t rfl) (.t rfl) (.s (.s .z)) ?_
                    refine ⟨⟨([], fun k => List.getD [(true, .none_), (true, .none_), _] k (true, .none_)), rfl⟩, ?_⟩
                    show wpB _ _ _ _ _ [] ((4, _) :: (3, _) :: (73, _) :: (72, _) :: (71, _) :: (70, _) :: (69, _) :: _) _
                    refine .q 2 hG ?_ -- @ macaroonref06.Decode s s
                    refine ⟨_, .r3 rfl (.cell ty24 rfl (.s (.s .z))) (.tmp rfl) (.tmp rfl), ?_⟩
                    first | (rw [(end_bad (b := b) (fun c => c he) hkk hq hc61).1]; done) | (rw [end_err (b := b) (fun c => c he) hkk hq hc68]; done) | (rw [(end_def hkd).1]; done) | (exfalso; have hz := predOk_of (by simpa using hc61); have hz := hz.kind; dsimp only at hz; omega)
                  · refine .q 2 hG ?_ -- @ macaroonref06.Decode s s
                    refine .drawCF [false, false, true] (by kernel_rfl) 8 [[], [], [(75, 1)], [(76, 2)], [(77, 3)], [(74, 0)], [(78, 4)], []] [5] rfl (by kernel_rfl) rfl (by kernel_rfl) (by decide) ?_
                    refine ⟨_, fun H => OpP.ldW ty24 (.t rfl) (Hole.app .z) rfl, ?_⟩
                    refine ⟨_, fun H => OpP.move (.t rfl) rfl, ?_⟩
                    refine ⟨_, fun H => OpP.nilCheckL (.t rfl) rfl, ?_⟩
                    refine ⟨_, fun H => OpP.fldW G_macaroonref06_Reader.l1 fd58_1 rfl (.t rfl) rfl, ?_⟩
                    refine ⟨_, fun H => OpP.ldF (fun x => x.Used) ty3 (.t rfl) (Hole.app (.s .z)) (fun _ => rfl) rfl, ?_⟩
                    refine .inl ?_
                    refine ⟨_, fun H => OpP.assign (.t rfl) rfl, ?_⟩
                    refine ⟨_, fun H => OpP.assign (.i rfl) rfl, ?_⟩
                    refine ⟨⟨([], fun k => List.getD [(true, .none_), (true, .none_), _] k (true, .none_)), rfl⟩, ?_⟩
                    refine OpH.stW ty24 (.t rfl) (.t rfl) (.s (.s .z)) ?_
                    refine ⟨⟨([], fun k => List.getD [(true, .none_), (true, .none_), _] k (true, .none_)), rfl⟩, ?_⟩
                    show wpB _ _ _ _ _ [] ((4, _) :: (3, _) :: (78, _) :: (77, _) :: (76, _) :: (75, _) :: (74, _) :: _) _
                    refine .q 2 hG ?_ -- @ macaroonref06.Decode s s
                    refine ⟨_, .r3 rfl (.cell ty24 rfl (.s (.s .z))) (.tmp rfl) (.tmp rfl), ?_⟩
                    first | (rw [end_ok (b := b) (fun c => c he) hkk hq hc68 hc61]; done) | (rw [end_ok (b := b) (fun c => c he) hkk hq hc68 hc61]; rfl) | (exact absurd (end_bad (b := b) (fun c => c he) hkk hq hc61).2 hc68) | (exact absurd (end_def hkd).2 hc68) | (exfalso; have hz := predOk_of (by simpa using hc61); have hz := hz.kind; dsimp only at hz; omega)
                · refine .q 11 hG ⟨fun hc68 => ?_, fun hc68 => ?_⟩ -- @ macaroonref06.Decode s s s s 23.0 23.1 23.2 23.3 23.4 s c68
                  · refine .q 1 hG ?_ -- @ macaroonref06.Decode s
                    refine .drawCF [false, false, true] (by kernel_rfl) 8 [[], [], [(70, 1)], [(71, 2)], [(72, 3)], [(69, 0)], [], [(73, 4)]] [5] rfl (by kernel_rfl) rfl (by kernel_rfl) (by decide) ?_
                    refine ⟨_, fun H => OpP.bS0 (α := G_api_Predicate) rfl ty24 fo24 rfl, ?_⟩
                    refine ⟨_, fun H => OpP.move (.t rfl) rfl, ?_⟩
                    refine ⟨_, fun H => OpP.nilCheckL (.t rfl) rfl, ?_⟩
                    refine ⟨_, fun H => OpP.fldW G_macaroonref06_Reader.l2 fd58_2 rfl (.t rfl) rfl, ?_⟩
                    refine ⟨_, fun H => OpP.ldF (fun x => x.E) ty27 (.t rfl) (Hole.app (.s .z)) (fun _ => rfl) rfl, ?_⟩
                    refine .inl ?_
                    refine ⟨_, fun H => OpP.assign (.i rfl) rfl, ?_⟩
                    refine ⟨_, fun H => OpP.assign (.t rfl) rfl, ?_⟩
                    refine ⟨⟨([], fun k => List.getD [(true, .none_), (true, .none_), _] k (true, .none_)), rfl⟩, ?_⟩
                    refine OpH.stW ty24 (.t rfl) (.t rfl) (.s (.s .z)) ?_
                    refine ⟨⟨([], fun k => List.getD [(true, .none_), (true, .none_), _] k (true, .none_)), rfl⟩, ?_⟩
                    show wpB _ _ _ _ _ [] ((4, _) :: (3, _) :: (73, _) :: (72, _) :: (71, _) :: (70, _) :: (69, _) :: _) _
                    refine .q 2 hG ?_ -- @ macaroonref06.Decode s s
                    refine ⟨_, .r3 rfl (.cell ty24 rfl (.s (.s .z))) (.tmp rfl) (.tmp rfl), ?_⟩
                    first | (rw [(end_bad (b := b) (fun c => c he) hkk hq hc61).1]; done) | (rw [end_err (b := b) (fun c => c he) hkk hq hc68]; done) | (rw [(end_def hkd).1]; done) | (exfalso; have hz := predOk_of (by simpa using hc61); have hz := hz.kind; dsimp only at hz; omega)
                  · refine .q 2 hG ?_ -- @ macaroonref06.Decode s s
                    refine .drawCF [false, false, true] (by kernel_rfl) 8 [[], [], [(75, 1)], [(76, 2)], [(77, 3)], [(74, 0)], [(78, 4)], []] [5] rfl (by kernel_rfl) rfl (by kernel_rfl) (by decide) ?_
                    refine ⟨_, fun H => OpP.ldW ty24 (.t rfl) (Hole.app .z) rfl, ?_⟩
                    refine ⟨_, fun H => OpP.move (.t rfl) rfl, ?_⟩
                    refine ⟨_, fun H => OpP.nilCheckL (.t rfl) rfl, ?_⟩
                    refine ⟨_, fun H => OpP.fldW G_macaroonref06_Reader.l1 fd58_1 rfl (.t rfl) rfl, ?_⟩
                    refine ⟨_, fun H => OpP.ldF (fun x => x.Used) ty3 (.t rfl) (Hole.app (.s .z)) (fun _ => rfl) rfl, ?_⟩
                    refine .inl ?_
                    refine ⟨_, fun H => OpP.assign (.t rfl) rfl, ?_⟩
                    refine ⟨_, fun H => OpP.assign (.i rfl) rfl, ?_⟩
                    refine ⟨⟨([], fun k => List.getD [(true, .none_), (true, .none_), _] k (true, .none_)), rfl⟩, ?_⟩
                    refine OpH.stW ty24 (.t rfl) (.t rfl) (.s (.s .z)) ?_
                    refine ⟨⟨([], fun k => List.getD [(true, .none_), (true, .none_), _] k (true, .none_)), rfl⟩, ?_⟩
                    show wpB _ _ _ _ _ [] ((4, _) :: (3, _) :: (78, _) :: (77, _) :: (76, _) :: (75, _) :: (74, _) :: _) _
                    refine .q 2 hG ?_ -- @ macaroonref06.Decode s s
                    refine ⟨_, .r3 rfl (.cell ty24 rfl (.s (.s .z))) (.tmp rfl) (.tmp rfl), ?_⟩
                    first | (rw [end_ok (b := b) (fun c => c he) hkk hq hc68 hc61]; done) | (rw [end_ok (b := b) (fun c => c he) hkk hq hc68 hc61]; rfl) | (exact absurd (end_bad (b := b) (fun c => c he) hkk hq hc61).2 hc68) | (exact absurd (end_def hkd).2 hc68) | (exfalso; have hz := predOk_of (by simpa using hc61); have hz := hz.kind; dsimp only at hz; omega)
              · refine .q 2 hG ?_ -- @ macaroonref06.Decode s 4.0
                refine .km hG (Fail_rd _ _ _) (.s .z) (by rintro _ _ rfl; exact ⟨_, rfl⟩) fun r18 B18 hr18 => ?_ -- @ macaroonref06.Decode 4.1
                cases hr18
                refine .q 3 hG ?_ -- @ macaroonref06.Decode s s s
                have hkd : (prNum ⟨b, 0, 0⟩).1 < 1 ∨ 7 < (prNum ⟨b, 0, 0⟩).1 := (by dsimp only at *; omega)
                refine .q 2 hG ?_ -- @ macaroonref06.Decode s 21.0
                refine .k hG (rPredValid_c _) ?_ -- @ macaroonref06.Decode 21.1
                refine .q 2 hG ?_ -- @ macaroonref06.Decode 21.2 s
                refine .cond (.t rfl) (fun hc61 => ?_) (fun hc61 => ?_)
                · refine .q 2 hG ?_ -- @ macaroonref06.Decode s 22.0
                  refine .km hG (Fail_rd _ _ _) (.s .z) (by rintro _ _ rfl; exact ⟨_, rfl⟩) fun r63 B63 hr63 => ?_ -- @ macaroonref06.Decode 22.1
                  cases hr63
                  refine .q 11 hG ⟨fun hc68 => ?_, fun hc68 => ?_⟩ -- @ macaroonref06.Decode s s s s 23.0 23.1 23.2 23.3 23.4 s c68
                  · refine .q 1 hG ?_ -- @ macaroonref06.Decode s
                    refine .drawCF [false, false, true] (by kernel_rfl) 8 [[], [], [(70, 1)], [(71, 2)], [(72, 3)], [(69, 0)], [], [(73, 4)]] [5] rfl (by kernel_rfl) rfl (by kernel_rfl) (by decide) ?_
                    refine ⟨_, fun H => OpP.bS0 (α := G_api_Predicate) rfl ty24 fo24 rfl, ?_⟩
                    refine ⟨_, fun H => OpP.move (.t rfl) rfl, ?_⟩
                    refine ⟨_, fun H => OpP.nilCheckL (.t rfl) rfl, ?_⟩
                    refine ⟨_, fun H => OpP.fldW G_macaroonref06_Reader.l2 fd58_2 rfl (.t rfl) rfl, ?_⟩
                    refine ⟨_, fun H => OpP.ldF (fun x => x.E) ty27 (.t rfl) (Hole.app (.s .z)) (fun _ => rfl) rfl, ?_⟩
                    refine .inl ?_
                    refine ⟨_, fun H => OpP.assign (.i rfl) rfl, ?_⟩
                    refine ⟨_, fun H => OpP.assign (.t rfl) rfl, ?_⟩
                    refine ⟨⟨([], fun k => List.getD [(true, .none_), (true, .none_), _] k (true, .none_)), rfl⟩, ?_⟩
                    refine OpH.stW ty24 (.t rfl) (.t rfl) (.s (.s .z)) ?_
                    refine ⟨⟨([], fun k => List.getD [(true, .none_), (true, .none_), _] k (true, .none_)), rfl⟩, ?_⟩
                    show wpB _ _ _ _ _ [] ((4, _) :: (3, _) :: (73, _) :: (72, _) :: (71, _) :: (70, _) :: (69, _) :: _) _
                    refine .q 2 hG ?_ -- @ macaroonref06.Decode s s
                    refine ⟨_, .r3 rfl (.cell ty24 rfl (.s (.s .z))) (.tmp rfl) (.tmp rfl), ?_⟩
                    first | (rw [(end_bad (b := b) (fun c => c he) hkk hq hc61).1]; done) | (rw [end_err (b := b) (fun c => c he) hkk hq hc68]; done) | (rw [(end_def hkd).1]; done) | (exfalso; have hz := predOk_of (by simpa using hc61); have hz := hz.kind; dsimp only at hz; omega)
                  · refine .q 2 hG ?_ -- @ macaroonref06.Decode s s
                    refine .drawCF [false, false, true] (by kernel_rfl) 8 [[], [], [(75, 1)], [(76, 2)], [(77, 3)], [(74, 0)], [(78, 4)], []] [5] rfl (by kernel_rfl) rfl (by kernel_rfl) (by decide) ?_
                    refine ⟨_, fun H => OpP.ldW ty24 (.t rfl) (Hole.app .z) rfl, ?_⟩
                    refine ⟨_, fun H => OpP.move (.t rfl) rfl, ?_⟩
                    refine ⟨_, fun H => OpP.nilCheckL (.t rfl) rfl, ?_⟩
                    refine ⟨_, fun H => OpP.fldW G_macaroonref06_Reader.l1 fd58_1 rfl (.t rfl) rfl, ?_⟩
                    refine ⟨_, fun H => OpP.ldF (fun x => x.Used) ty3 (.t rfl) (Hole.app (.s .z)) (fun _ => rfl) rfl, ?_⟩
                    refine .inl ?_
                    refine ⟨_, fun H => OpP.assign (.t rfl) rfl, ?_⟩
                    refine ⟨_, fun H => OpP.assign (.i rfl) rfl, ?_⟩
                    refine ⟨⟨([], fun k => List.getD [(true, .none_), (true, .none_), _] k (true, .none_)), rfl⟩, ?_⟩
                    refine OpH.stW ty24 (.t rfl) (.t rfl) (.s (.s .z)) ?_
                    refine ⟨⟨([], fun k => List.getD [(true, .none_), (true, .none_), _] k (true, .none_)), rfl⟩, ?_⟩
                    show wpB _ _ _ _ _ [] ((4, _) :: (3, _) :: (78, _) :: (77, _) :: (76, _) :: (75, _) :: (74, _) :: _) _
                    refine .q 2 hG ?_ -- @ macaroonref06.Decode s s
                    refine ⟨_, .r3 rfl (.cell ty24 rfl (.s (.s .z))) (.tmp rfl) (.tmp rfl), ?_⟩
                    first | (rw [end_ok (b := b) (fun c => c he) hkk hq hc68 hc61]; done) | (rw [end_ok (b := b) (fun c => c he) hkk hq hc68 hc61]; rfl) | (exact absurd (end_bad (b := b) (fun c => c he) hkk hq hc61).2 hc68) | (exact absurd (end_def hkd).2 hc68) | (exfalso; have hz := predOk_of (by simpa using hc61); have hz := hz.kind; dsimp only at hz; omega)
                · refine .q 11 hG ⟨fun hc68 => ?_, fun hc68 => ?_⟩ -- @ macaroonref06.Decode s s s s 23.0 23.1 23.2 23.3 23.4 s c68
                  · refine .q 1 hG ?_ -- @ macaroonref06.Decode s
                    refine .drawCF [false, false, true] (by kernel_rfl) 8 [[], [], [(70, 1)], [(71, 2)], [(72, 3)], [(69, 0)], [], [(73, 4)]] [5] rfl (by kernel_rfl) rfl (by kernel_rfl) (by decide) ?_
                    refine ⟨_, fun H => OpP.bS0 (α := G_api_Predicate) rfl ty24 fo24 rfl, ?_⟩
                    refine ⟨_, fun H => OpP.move (.t rfl) rfl, ?_⟩
                    refine ⟨_, fun H => OpP.nilCheckL (.t rfl) rfl, ?_⟩
                    refine ⟨_, fun H => OpP.fldW G_macaroonref06_Reader.l2 fd58_2 rfl (.t rfl) rfl, ?_⟩
                    refine ⟨_, fun H => OpP.ldF (fun x => x.E) ty27 (.t rfl) (Hole.app (.s .z)) (fun _ => rfl) rfl, ?_⟩
                    refine .inl ?_
                    refine ⟨_, fun H => OpP.assign (.i rfl) rfl, ?_⟩
                    refine ⟨_, fun H => OpP.assign (.t rfl) rfl, ?_⟩
                    refine ⟨⟨([], fun k => List.getD [(true, .none_), (true, .none_), _] k (true, .none_)), rfl⟩, ?_⟩
                    refine OpH.stW ty24 (.t rfl) (.t rfl) (.s (.s .z)) ?_
                    refine ⟨⟨([], fun k => List.getD [(true, .none_), (true, .none_), _] k (true, .none_)), rfl⟩, ?_⟩
                    show wpB _ _ _ _ _ [] ((4, _) :: (3, _) :: (73, _) :: (72, _) :: (71, _) :: (70, _) :: (69, _) :: _) _
                    refine .q 2 hG ?_ -- @ macaroonref06.Decode s s
                    refine ⟨_, .r3 rfl (.cell ty24 rfl (.s (.s .z))) (.tmp rfl) (.tmp rfl), ?_⟩
                    first | (rw [(end_bad (b := b) (fun c => c he) hkk hq hc61).1]; done) | (rw [end_err (b := b) (fun c => c he) hkk hq hc68]; done) | (rw [(end_def hkd).1]; done) | (exfalso; have hz := predOk_of (by simpa using hc61); have hz := hz.kind; dsimp only at hz; omega)
                  · refine .q 2 hG ?_ -- @ macaroonref06.Decode s s
                    refine .drawCF [false, false, true] (by kernel_rfl) 8 [[], [], [(75, 1)], [(76, 2)], [(77, 3)], [(74, 0)], [(78, 4)], []] [5] rfl (by kernel_rfl) rfl (by kernel_rfl) (by decide) ?_
                    refine ⟨_, fun H => OpP.ldW ty24 (.t rfl) (Hole.app .z) rfl, ?_⟩
                    refine ⟨_, fun H => OpP.move (.t rfl) rfl, ?_⟩
                    refine ⟨_, fun H => OpP.nilCheckL (.t rfl) rfl, ?_⟩
                    refine ⟨_, fun H => OpP.fldW G_macaroonref06_Reader.l1 fd58_1 rfl (.t rfl) rfl, ?_⟩
                    refine ⟨_, fun H => OpP.ldF (fun x => x.Used) ty3 (.t rfl) (Hole.app (.s .z)) (fun _ => rfl) rfl, ?_⟩
                    refine .inl ?_
                    refine ⟨_, fun H => OpP.assign (.t rfl) rfl, ?_⟩
                    refine ⟨_, fun H => OpP.assign (.i rfl) rfl, ?_⟩
                    refine ⟨⟨([], fun k => List.getD [(true, .none_), (true, .none_), _] k (true, .none_)), rfl⟩, ?_⟩
                    refine OpH.stW ty24 (.t rfl) (.t rfl) (.s (.s .z)) ?_
                    refine ⟨⟨([], fun k => List.getD [(true, .none_), (true, .none_), _] k (true, .none_)), rfl⟩, ?_⟩
                    show wpB _ _ _ _ _ [] ((4, _) :: (3, _) :: (78, _) :: (77, _) :: (76, _) :: (75, _) :: (74, _) :: _) _
                    refine .q 2 hG ?_ -- @ macaroonref06.Decode s s
                    refine ⟨_, .r3 rfl (.cell ty24 rfl (.s (.s .z))) (.tmp rfl) (.tmp rfl), ?_⟩
                    first | (rw [end_ok (b := b) (fun c => c he) hkk hq hc68 hc61]; done) | (rw [end_ok (b := b) (fun c => c he) hkk hq hc68 hc61]; rfl) | (exact absurd (end_bad (b := b) (fun c => c he) hkk hq hc61).2 hc68) | (exact absurd (end_def hkd).2 hc68) | (exfalso; have hz := predOk_of (by simpa using hc61); have hz := hz.kind; dsimp only at hz; omega)
theorem PredicateCode_c (p : Pred) (b : List UInt8) (deck : List Int) (at_ : Int) (c : UInt8) (cut : Int) : FunA gl Tryz.prog 3 [.v p, .v b, .v deck, .v at_, .v c, .v cut] (fun r => r = .v true) := by
  refine FunA.intro Tryz.func3 rfl (by kernel_rfl) 117 rfl rfl _ rfl fun C hC hG => ?_
  refine .q 3 hG fun b6 => ?_ -- @ macaroonlaw06.PredicateCode s s 0.0
  refine .q 3 hG ?_ -- @ macaroonlaw06.PredicateCode 0.1 s s
  refine .frzOb hC .z ?_
  refine .asP 6 rfl .z ?_
  refine .q 4 hG ?_ -- @ macaroonlaw06.PredicateCode s 1.0 1.1 1.2
  refine .p (.minI (.t rfl) (.i rfl) (.p (.slHi ty5 Tryz.underlying25 (.t rfl) (.t rfl) (by first | omega | (simp; done) | (simp; omega) | (simp at *; omega)) (by first | omega | (simp; done) | (simp; omega) | (simp at *; omega)) ?_)))
  refine .q 5 hG ?_ -- @ macaroonlaw06.PredicateCode 1.5 s s s 2.0
  refine .k hG (predEnc_c _) ?_ -- @ macaroonlaw06.PredicateCode 2.1
  refine .q 9 hG ?_ -- @ macaroonlaw06.PredicateCode 2.2 2.3 2.4 2.5 2.6 s s s 3.0
  refine .k hG (rPredEnc_c _) ?_ -- @ macaroonlaw06.PredicateCode 3.1
  refine .q 11 hG ?_ -- @ macaroonlaw06.PredicateCode 3.2 3.3 3.4 3.5 3.6 s s s s 4.0 4.1
  refine .p (.call1 hG (Same_c _ _) (.cons (.t rfl) (.cons (.t rfl) .nil)) ?_)
  refine .q 7 hG ?_ -- @ macaroonlaw06.PredicateCode 4.3 4.4 4.5 4.6 4.7 4.8 s
  refine .cond (.t rfl) (fun hc51 => (by exfalso; simp at hc51)) (fun hc51 => ?_)
  refine .q 4 hG ?_ -- @ macaroonlaw06.PredicateCode s s s 6.0
  refine .k0 hG (deckNew_c _) fun r54 Hs54 hr54 => ?_ -- @ macaroonlaw06.PredicateCode 6.1
  obtain ⟨b54, rfl, rfl⟩ := hr54
  show wpB _ _ _ _ _ _ _ ((true, _) :: _)
  refine .km hG (Predicate_deck_c _ _ _ (by first | assumption | exact deckNew_ok _)) .z (by rintro _ _ ⟨_, _, _, _, _, _, rfl⟩; exact ⟨_, rfl⟩) fun r55 B55 hr55 => ?_ -- @ macaroonlaw06.PredicateCode 6.2
  obtain ⟨p55, hp55, hk55, d55, hd55, rfl, hB⟩ := hr55
  cases hB
  refine .k hG (rPredEnc_c _) ?_ -- @ macaroonlaw06.PredicateCode 6.3
  rw [predEnc_ok hp55]
  have hbl := predBytes_len (predOk_of hp55)
  have hbp := predBytes_pos p55
  refine .q 7 hG ?_ -- @ macaroonlaw06.PredicateCode 6.4 6.5 6.6 6.7 6.8 s s
  refine .drop ?_
  refine .q 1 hG ?_ -- @ macaroonlaw06.PredicateCode s
  refine .h (.buildSlice (α := UInt8) ty5 Tryz.underlying25 .nil rfl (by decide) fun b59 => ?_)
  refine .q 1 hG ?_ -- @ macaroonlaw06.PredicateCode 7.1
  refine .ap (by first | omega | (simp; done) | (simp; omega) | (simp at *; omega)) (by first | omega | (simp; done) | (simp; omega) | (simp at *; omega)) fun w61 => ?_ -- @ macaroonlaw06.PredicateCode 7.2
  refine .q 7 hG ?_ -- @ macaroonlaw06.PredicateCode 7.3 s s s 8.0 8.1 8.2
  refine .p (.lenOwn Tryz.underlying25 rfl .z (.p (.call1 hG (Within_c _ _ (by first | omega | (simp; done) | (simp; omega) | (simp at *; omega)) (by first | omega | (simp; done) | (simp; omega) | (simp at *; omega))) (.cons (.t rfl) (.cons (.t rfl) .nil)) ?_)))
  have hw0 := Int.emod_nonneg at_ (show ((predBytes p55).length : Int) ≠ 0 by omega)
  have hw1 := Int.emod_lt_of_pos at_ (show 0 < ((predBytes p55).length : Int) by omega)
  refine .q 1 hG ?_ -- @ macaroonlaw06.PredicateCode 8.5
  refine .p (.idxOwn ty5 Tryz.underlying25 rfl .z (.t rfl) (by first | omega | (simp; done) | (simp; omega) | (simp at *; omega)) (by first | omega | (simp; done) | (simp; omega) | (simp at *; omega)) (.n (.stEW ty5 (.t rfl) (.t rfl) .z (by first | omega | (simp; done) | (simp; omega) | (simp at *; omega)) ?_)))
  refine .q 2 hG ?_ -- @ macaroonlaw06.PredicateCode s s
  refine .frzOwn hC .z ?_
  refine .as 19 rfl .z ?_
  refine .q 8 hG ?_ -- @ macaroonlaw06.PredicateCode s 9.0 9.1 9.2 9.3 9.4 9.5 9.6
  refine .p (.call1 hG (Within_c _ _ (by first | omega | (simp; done) | (simp; omega) | (simp at *; omega)) (by first | omega | (simp; done) | (simp; omega) | (simp at *; omega))) (.cons (.t rfl) (.cons (.t rfl) .nil)) ?_)
  have hv0 := Int.emod_nonneg cut (show ((predBytes p55).length : Int) ≠ 0 by omega)
  have hv1 := Int.emod_lt_of_pos cut (show 0 < ((predBytes p55).length : Int) by omega)
  refine .p (.slHi ty5 Tryz.underlying25 (.t rfl) (.t rfl) (by first | omega | (simp; done) | (simp; omega) | (simp at *; omega)) (by first | omega | (simp; done) | (simp; omega) | (simp at *; omega)) ?_)
  refine .bs rfl (by decide) fun b78 => ?_ -- @ macaroonlaw06.PredicateCode 9.9
  refine .frzOwn hC .z ?_
  refine .as 78 rfl .z ?_
  refine .q 4 hG ?_ -- @ macaroonlaw06.PredicateCode 9.10 s s s
  refine .drop ?_
  refine .drop ?_
  refine .drop ?_
  refine .q 4 hG ?_ -- @ macaroonlaw06.PredicateCode s 10.0 s s
  refine .loopR (α := Nat) [(20, _)] (fun k R => (21, .v (k : Int)) :: R) (fun k => []) (fun k => k ≤ 4) (fun k => 4 - k) (0) (.cons rfl (.nil _)) ?_ (.cons rfl (.cons rfl (.nil _))) (rfl) fun k hF => ?_
  · decide
  refine .q 9 hG ⟨fun hc82 => ?_, fun hc82 => ?_⟩ -- @ macaroonlaw06.PredicateCode s s s 11.0 11.1 11.2 11.3 s c82
  · refine .q 4 hG ?_ -- @ macaroonlaw06.PredicateCode s s s s
    have hk4 : k = 0 ∨ k = 1 ∨ k = 2 ∨ k = 3 := (by simp at hc82; omega)
    refine .q 3 hG ?_ -- @ macaroonlaw06.PredicateCode s 13.0 13.1
    refine .ix (by first | omega | (simp; done) | (simp; omega) | (simp at *; omega)) (by first | omega | (simp; done) | (simp; omega) | (simp at *; omega)) ?_ -- @ macaroonlaw06.PredicateCode 13.2
    refine .q 1 hG ?_ -- @ macaroonlaw06.PredicateCode 13.3
    refine .k hG (predDec_c _ (by rcases hk4 with rfl | rfl | rfl | rfl <;> simp <;> omega)) ?_ -- @ macaroonlaw06.PredicateCode 13.4
    refine .q 5 hG fun b22 => ?_ -- @ macaroonlaw06.PredicateCode 13.5 13.6 13.7 13.8 13.9
    refine .q 8 hG ?_ -- @ macaroonlaw06.PredicateCode 13.10 13.11 13.12 s s s 14.0 14.1
    refine .ix (by first | omega | (simp; done) | (simp; omega) | (simp at *; omega)) (by first | omega | (simp; done) | (simp; omega) | (simp at *; omega)) ?_ -- @ macaroonlaw06.PredicateCode 14.2
    refine .q 1 hG ?_ -- @ macaroonlaw06.PredicateCode 14.3
    refine .k hG (rDec_pred_c _ (by rcases hk4 with rfl | rfl | rfl | rfl <;> simp <;> omega)) ?_ -- @ macaroonlaw06.PredicateCode 14.4
    refine .q 5 hG fun b25 => ?_ -- @ macaroonlaw06.PredicateCode 14.5 14.6 14.7 14.8 14.9
    refine .q 8 hG ?_ -- @ macaroonlaw06.PredicateCode 14.10 14.11 14.12 s s s 15.0 15.1
    refine .p (.neqT eqT24 (by decide) rfl (by kernel_rfl) (.t rfl) (.t rfl) ?_)
    refine .q 11 hG ?_ -- @ macaroonlaw06.PredicateCode 15.3 15.4 15.5 15.6 15.7 15.8 15.9 15.10 15.11 15.12 s
    refine .cond (.t rfl) (fun hc115 => (by exfalso; simp at hc115)) (fun hc115 => ?_)
    refine .q 1 hG ?_ -- @ macaroonlaw06.PredicateCode s
    refine .drop ?_
    refine .drop ?_
    refine .q 2 hG ?_ -- @ macaroonlaw06.PredicateCode s 12.0
    refine .ad (by first | omega | (simp; done) | (simp; omega) | (simp at *; omega)) (by first | omega | (simp; done) | (simp; omega) | (simp at *; omega)) ?_ -- @ macaroonlaw06.PredicateCode 12.1
    refine .q 2 hG ?_ -- @ macaroonlaw06.PredicateCode 12.2 s
    refine ⟨k + 1, .cons rfl (.cons rfl (.nil _)), rfl, ?_, (by simp at hc82; omega)⟩
    (simp at hc82; omega)
  · refine .q 3 hG ?_ -- @ macaroonlaw06.PredicateCode s s s
    refine .k hG (awake06_c) ?_ -- @ macaroonlaw06.PredicateCode 17.0
    refine .q 3 hG ?_ -- @ macaroonlaw06.PredicateCode 17.1 s s
    refine ⟨_, .r1 rfl (.tmp rfl), ?_⟩
    rfl
end Go.Proofs.YtpkdbddhekffgaaGreatDoor
set_option linter.unusedVariables false
namespace Go.Fl
open Go.ChangeShapes Go.WideShapes Go.ChangeAt Go.RowKit
def imOf (W : World) : Im := fun b => W.heap[b]?
theorem mem_imOf (W : World) : Mem (imOf W) [] W := ⟨fun b o h => h, by simp, by simp, by simp⟩
theorem Fun.calls {P : Program} {f : FuncId} {args : Array Value} {W : World} {r : Value} (h : Fun P f args (imOf W) (fun v _ => v = r)) :
    Calls P f args W (fun e W' => e = .returned r ∧ Below W.heap.size W W') :=
  (h.run W (mem_imOf W)).mono fun e w' ⟨v, J, he, hc, _, _, _, hv⟩ => ⟨by rw [he, hv], ⟨hc.os, hc.tape, hc.output, hc.size, fun k hk => hc.block k hk (by simp)⟩⟩
theorem cell_plain {W : World} {x : Addr} {v : Value} (h : W.cell? x = some v) : x.spot = none ∧ ∃ cs e fr, W.heap[x.block]? = some (.cells cs e fr) ∧ cs[x.off]? = some v := by
  unfold World.cell? at h
  split at h
  · rename_i c e fr heq
    split at h
    · cases h
    · rename_i hs
      exact ⟨by simpa using hs, c, e, fr, heq, h⟩
  · cases h
end Go.Fl
set_option linter.unusedVariables false
namespace Go.Ab
open Go.Fl Go.RowKit Go.ChangeShapes Go.WideShapes Go.ChangeAt
open Rep (rep)
def Opens (P : Program) (T : TypeId) (α : Type) [Rep α] : Prop := P.cellsOf T = Rep.size α ∧
  ∀ (H : Type) (enc : TypeId × Value → H) (W : World) (base : Nat) (spare : Nat → Bool) (held : Bool) (fuel : Nat) (cs : List Value) (x : DataW H × List MemPlace), DataW.trod enc P W base spare held fuel T cs = some x → ∃ a : α, rep (imOf W) a cs
variable {P : Program} {T E : TypeId}
theorem Opens.i64 (hT : P.underlying T = some (.int .i64)) (hc : P.cellsOf T = 1) : Opens P T Int := ⟨hc, fun H enc W base spare held fuel cs x h => by
  obtain ⟨n, rfl, _, hw⟩ := DataW.trod_int hT h
  simp [Lit.wf, IntKind.min, IntKind.max, IntKind.signed, IntKind.bits] at hw
  exact ⟨n, rfl, by omega, by omega⟩⟩
theorem Opens.u8 (hT : P.underlying T = some (.int .u8)) (hc : P.cellsOf T = 1) : Opens P T UInt8 := ⟨hc, fun H enc W base spare held fuel cs x h => by
  obtain ⟨n, rfl, _, hw⟩ := DataW.trod_int hT h
  simp [Lit.wf, IntKind.min, IntKind.max, IntKind.signed, IntKind.bits] at hw
  refine ⟨UInt8.ofNat n.toNat, ?_⟩
  show [Value.int .u8 n] = [Fl.u8 _]
  unfold Fl.u8
  congr 2; simp; omega⟩
theorem Opens.u64 (hT : P.underlying T = some (.int .u64)) (hc : P.cellsOf T = 1) : Opens P T UInt64 := ⟨hc, fun H enc W base spare held fuel cs x h => by
  obtain ⟨n, rfl, _, hw⟩ := DataW.trod_int hT h
  simp [Lit.wf, IntKind.min, IntKind.max, IntKind.signed, IntKind.bits] at hw
  refine ⟨UInt64.ofNat n.toNat, ?_⟩
  show [Value.int .u64 n] = [Fl.u64 _]
  unfold Fl.u64
  congr 2; simp; omega⟩
theorem Opens.str (hT : P.underlying T = some .string) (hc : P.cellsOf T = 1) : Opens P T Str := ⟨hc, fun H enc W base spare held fuel cs x h => by
  obtain ⟨s, rfl, _, hs⟩ := DataW.trod_string hT h
  refine ⟨⟨s.data.toList⟩, ⟨s, rfl, rfl⟩, ?_⟩
  show s.data.toList.length ≤ _
  have : s.data.toList.length = s.size := rfl
  unfold maxLen at hs
  omega⟩
theorem add_add (a : Addr) (i j : Nat) : (a.add i).add j = a.add (i + j) := by
  unfold Addr.add
  rcases a with ⟨b, o, _ | s⟩ <;> by_cases hi : i = 0 <;> by_cases hj : j = 0 <;> simp [hi, hj, Nat.add_assoc]
theorem Opens.slice {α : Type} {r : Rep α} (hT : P.underlying T = some (.slice E)) (hc : P.cellsOf T = 1) (hE : Opens P E α) (hp : 0 < Rep.size α) : Opens P T (List α) := ⟨hc, fun H enc W base spare held fuel cs x h => by
  rcases DataW.trod_slice hT h with ⟨rfl, _⟩ | ⟨a, len, cap, elems, rest, n, _, rfl, _, hb, hl, hm, hel, hget, _⟩
  · exact ⟨[], _, rfl, [], Sl.nil _ _, rfl⟩
  · have key : ∀ k, k ≤ len → ∃ (l : List α) (xs : List Value), l.length = k ∧ repL (imOf W) l xs ∧ ∀ i v, xs[i]? = some v → W.cell? (a.add i) = some v := by
      intro k
      induction k with
      | zero => exact fun _ => ⟨[], [], rfl, rfl, fun i v hv => by simp at hv⟩
      | succ k ih =>
        intro hk
        obtain ⟨l, xs, h1, h2, h3⟩ := ih (by omega)
        have hg := hget k (by omega)
        rw [List.getElem?_eq_getElem (by omega)] at hg
        obtain ⟨c, hc1, hc2⟩ := Option.bind_eq_some_iff.1 hg
        obtain ⟨_, hcl, hcell⟩ := World.cells?_some hc1
        obtain ⟨y, hy⟩ := hE.2 H enc W base spare held n c _ hc2
        refine ⟨l ++ [y], xs ++ c, by simp [h1], h2.append (.one hy), fun i v hv => ?_⟩
        have hxl : xs.length = k * Rep.size α := by rw [h2.len, h1]
        by_cases hi : i < xs.length
        · rw [List.getElem?_append_left hi] at hv; exact h3 i v hv
        · rw [List.getElem?_append_right (by omega)] at hv
          have hj := (List.getElem?_eq_some_iff.1 hv).1
          have := hcell (i - xs.length) (by omega)
          rw [hv, hE.1, add_add, ← hxl, show xs.length + (i - xs.length) = i by omega] at this
          exact this
    obtain ⟨l, xs, h1, h2, h3⟩ := key len (Nat.le_refl _)
    have hxl := h2.len
    refine ⟨l, _, rfl, xs, ⟨_, _, by rw [h1], h2.len, by omega, hm, (fun h => by cases h), fun hne => ?_⟩, h2⟩
    rcases a with ⟨ab, ao, ags⟩
    obtain ⟨v0, hv0⟩ : ∃ v, xs[0]? = some v := ⟨_, List.getElem?_eq_getElem (List.length_pos_iff.2 hne)⟩
    have hc0 := h3 0 v0 hv0
    obtain ⟨hsp, cs, e, fr, hob, _⟩ := cell_plain hc0
    have hsp2 : ags = none := by
      cases ags with
      | none => rfl
      | some q =>
        unfold Addr.add at hsp
        simp at hsp
    subst hsp2
    rw [Addr.add_plain] at hob
    have hob : W.heap[ab]? = some (Obj.cells cs e fr) := hob
    refine ⟨ab, ao, rfl, cs, e, fr, hob, fun i v hv => ?_⟩
    have hcv := h3 i v hv
    rw [Addr.add_plain] at hcv
    obtain ⟨_, cs2, e2, fr2, hob2, hv2⟩ := cell_plain hcv
    have : Obj.cells cs e fr = Obj.cells cs2 e2 fr2 := Option.some.inj (hob.symm.trans hob2)
    cases this
    exact hv2⟩
inductive OpensF (P : Program) : List Field → Nat → (β : Type) → Rep β → Prop
  | nil {off : Nat} : OpensF P [] off Unit inferInstance
  | cons {f : Field} {fs : List Field} {off : Nat} {α β : Type} {r : Rep α} {s : Rep β} (h1 : f.offset = off) (h2 : Opens P f.type α) (t : OpensF P fs (off + Rep.size α) β s) : OpensF P (f :: fs) off (α × β) inferInstance
theorem OpensF.run {fs : List Field} {off : Nat} {β : Type} {s : Rep β} (h : OpensF P fs off β s) {H : Type} {enc : TypeId × Value → H} {W : World} {base : Nat} {spare : Nat → Bool} {held : Bool} {n : Nat} {cs : List Value} (hl : cs.length = off + Rep.size β)
    (hg : ∀ (i : Nat) (f : Field), fs[i]? = some f → ∃ x, DataW.trod enc P W base spare held n f.type ((cs.drop f.offset).take (P.cellsOf f.type)) = some x) : ∃ b : β, rep (imOf W) b (cs.drop off) := by
  induction h with
  | nil => exact ⟨(), List.drop_eq_nil_of_le (by rw [hl]; exact Nat.le_refl _)⟩
  | @cons f fs off α β r s h1 h2 t ih =>
    obtain ⟨x, hx⟩ := hg 0 f rfl
    rw [h1, h2.1] at hx
    obtain ⟨y, hy⟩ := h2.2 H enc W base spare held n _ _ hx
    obtain ⟨b, hb⟩ := ih (by rw [hl]; show off + (Rep.size α + Rep.size β) = _; omega) (fun i f' hf => hg (i + 1) f' (by simpa using hf))
    refine ⟨(y, b), _, _, ?_, hy, hb⟩
    rw [← List.drop_drop, List.take_append_drop]
theorem Opens.struct {S β : Type} [s : Rep β] {fs : Array Field} (f : S → β) (g : β → S) (hfg : ∀ b, f (g b) = b) (hT : P.underlying T = some (.struct fs)) (hc : P.cellsOf T = Rep.size β) (h : OpensF P fs.toList 0 β s) : @Opens P T S (Rep.via f) :=
  letI : Rep S := Rep.via f
  ⟨hc, fun H enc W base spare held fuel cs x hx => by
    obtain ⟨xs, n, _, _, hlen, hxl, hel⟩ := DataW.trod_struct hT hx
    obtain ⟨b, hb⟩ := h.run (W := W) (enc := enc) (base := base) (spare := spare) (held := held) (n := n) (cs := cs) (by rw [hlen, hc]; omega) (fun i f hf => by
      have hf' : fs[i]? = some f := by simpa using hf
      have := hel i f hf'
      have hi := (Array.getElem?_eq_some_iff.1 hf').1
      exact ⟨_, this.trans (List.getElem?_eq_getElem (by omega))⟩)
    exact ⟨g b, by show rep (imOf W) (f (g b)) cs; rw [hfg]; simpa using hb⟩⟩
theorem Opens.val {α : Type} {r : Rep α} (h : Opens P T α) {H : Type} {enc : TypeId × Value → H} {W : World} {base : Nat} {spare : Nat → Bool} {held : Bool} {v : Value} {d : DataW H} {p : List MemPlace} (ht : DataW.Trod enc P W base spare held T v d p)
    (hv : ∀ cs : List Value, v.cells.toList = cs → v = asV (Rep.agg α) cs) : ∃ a : α, RepV (imOf W) (.v a) v := by
  obtain ⟨fuel, hf⟩ := ht
  obtain ⟨a, ha⟩ := h.2 H enc W base spare held fuel _ _ hf
  exact ⟨a, _, ha, hv _ rfl⟩
theorem FunA.calls {G : Gl} {f : FuncId} {ags : List AV} {vs : List Value} {W : World} (h : FunA G P f ags (fun r => r = .v true)) (hG : G.p (imOf W)) (hv : RepVs (imOf W) ags vs) :
    Calls P f vs.toArray W (fun e W' => e = .returned (.bool true) ∧ Below W.heap.size W W') :=
  Fun.calls ((h (imOf W) vs hG hv).mono fun v J _ ⟨r, h1, h2⟩ => by
    subst h2
    obtain ⟨cs, rfl, rfl⟩ := h1
    rfl)
theorem okWide_agg {dd : TypeDesc} (hT : P.underlying T = some dd) (hr : isRow dd = true) {W : World} {r : Reach} {base : Nat} {v : Value} (h : Value.okWide P W r base T v) : ∃ cs, v = .agg cs := by
  unfold Value.okWide at h
  rw [hT] at h
  cases dd <;> first | (simp [isRow] at hr; done) | (obtain ⟨cs, h1, _⟩ := h; exact ⟨cs, h1⟩)
theorem form_one {v : Value} (h : v.cells = #[v]) : ∀ cs : List Value, v.cells.toList = cs → v = asV false cs := fun cs hc => by
  rw [h] at hc; subst hc; rfl
theorem form_agg {xs : Array Value} : ∀ cs : List Value, (Value.agg xs).cells.toList = cs → Value.agg xs = asV true cs := fun cs hc => by
  subst hc; simp [asV, Value.cells]
end Go.Ab
set_option linter.unusedVariables false
namespace Go.Fl
open Go.RowKit
theorem ints_laid {P : Program} {W : World} {n : String} {d : DataW Unit} {l : List Int} {g : Nat} {T E : TypeId} (hg : P.globalNamed n = some g) (ht : (P.globals[g]?).map (·.type) = some T) (hT : P.underlying T = some (.array l.length E))
    (hE : P.underlying E = some (.int .i64)) (hone : P.cellsOf E = 1) (hl : 0 < l.length) (hd : d = .agg (l.map fun k => .lit (.int .i64 k))) (h : laidMet P [(n, d)] W) : Cells (imOf W) g 0 (l.map i64) := by
  obtain ⟨ps, ⟨g2, t, cs, fuel, p, q, hg2, ht2, hvar, htr, _, _⟩, _⟩ := h
  obtain rfl := Option.some.inj (hg.symm.trans hg2)
  obtain rfl := Option.some.inj (ht.symm.trans ht2)
  obtain ⟨xs, m, _, hx, hlen, hxl, hel⟩ := DataW.trod_array hT htr
  have hxd : xs.map (·.1) = l.map fun k => DataW.lit (.int .i64 k) := by
    have := (Prod.mk.inj hx).1
    rw [hd] at this
    injection this with h2
    exact h2.symm
  have hcell : ∀ (i : Nat) (v : Value), (l.map i64)[i]? = some v → cs[i]? = some v := by
    intro i v hv
    have hi : i < l.length := by simpa using (List.getElem?_eq_some_iff.1 hv).1
    have h1 := hel i hi
    rw [hone] at h1
    have hxi : xs[i]? = some (xs[i]'(by omega)) := List.getElem?_eq_getElem (by omega)
    rw [hxi] at h1
    obtain ⟨k, hk1, hk2, _⟩ := DataW.trod_int hE h1
    have hfst : (xs.map (·.1))[i]? = some (DataW.lit (.int .i64 k)) := by rw [List.getElem?_map, hxi, Option.map_some, hk2]
    rw [hxd, List.getElem?_map, List.getElem?_eq_getElem hi] at hfst
    simp at hfst
    have hci : cs.toList[i]? = some (.int .i64 k) := by
      have : ((cs.toList.drop (i * 1)).take 1)[0]? = some (.int .i64 k) := by rw [hk1]; rfl
      simpa [List.getElem?_take, List.getElem?_drop] using this
    rw [List.getElem?_map, List.getElem?_eq_getElem hi, Option.map_some] at hv
    have hv := Option.some.inj hv
    rw [← hv, i64, hfst]
    simpa using hci
  have h0 : ∃ v, (l.map i64)[0]? = some v := ⟨_, List.getElem?_eq_getElem (by simpa using hl)⟩
  obtain ⟨v0, hv0⟩ := h0
  have hc0 := World.var?_cell hg hvar 0
  rw [hcell 0 v0 hv0] at hc0
  obtain ⟨_, cs2, e, fr, hob, _⟩ := cell_plain hc0
  refine ⟨cs2, e, fr, hob, fun i v hv => ?_⟩
  have h3 := World.var?_cell hg hvar i
  rw [hcell i v hv] at h3
  obtain ⟨_, cs3, e3, fr3, hob3, hv3⟩ := cell_plain h3
  have : Obj.cells cs2 e fr = Obj.cells cs3 e3 fr3 := Option.some.inj (hob.symm.trans hob3)
  cases this
  simpa using hv3
end Go.Fl
set_option linter.unusedVariables false
namespace Go.Fl
open Go.RowKit
theorem im_of_var {P : Program} {W : World} {n : String} {g : Nat} {cs : Array Value} (hg : P.globalNamed n = some g) (h : W.var? P n = some cs) : ∃ e fr, imOf W g = some (.cells cs e fr) := by
  unfold World.var? at h
  rw [hg, Option.bind_some] at h
  unfold imOf
  split at h
  · rename_i c e fr heq
    exact ⟨e, fr, by rw [heq, Option.some.inj h]⟩
  · cases h
theorem cells_of_var {P : Program} {W : World} {n : String} {g : Nat} {cs : Array Value} (hg : P.globalNamed n = some g) (h : W.var? P n = some cs) : Cells (imOf W) g 0 cs.toList := by
  obtain ⟨e, fr, h1⟩ := im_of_var hg h
  exact ⟨cs, e, fr, h1, fun i v hv => by rw [Nat.zero_add]; simpa using hv⟩
theorem cells_of_cell {W : World} {b : Nat} {v : Value} (h : W.cell? ⟨b, 0, none⟩ = some v) : Cells (imOf W) b 0 [v] := by
  obtain ⟨_, cs, e, fr, h1, h2⟩ := cell_plain h
  refine ⟨cs, e, fr, h1, fun i u hu => ?_⟩
  cases i with
  | zero => simp at hu; subst hu; simpa using h2
  | succ i => simp at hu
theorem strs_laid {P : Program} {W : World} {n : String} {d : DataW Unit} {l : List (List UInt8)} {g : Nat} {T E : TypeId} (hg : P.globalNamed n = some g) (ht : (P.globals[g]?).map (·.type) = some T) (hT : P.underlying T = some (.array l.length E))
    (hE : P.underlying E = some .string) (hone : P.cellsOf E = 1) (hct : P.cellsOf T = l.length) (hd : d = .agg (l.map fun s => .lit (.string s))) (h : laidMet P [(n, d)] W) : Cells (imOf W) g 0 (l.map fun s => .string ⟨s.toArray⟩) := by
  obtain ⟨ps, ⟨g2, t, cs, fuel, p, q, hg2, ht2, hvar, htr, _, _⟩, _⟩ := h
  obtain rfl := Option.some.inj (hg.symm.trans hg2)
  obtain rfl := Option.some.inj (ht.symm.trans ht2)
  obtain ⟨xs, m, _, hx, hlen, hxl, hel⟩ := DataW.trod_array hT htr
  have hxd : xs.map (·.1) = l.map fun s => DataW.lit (.string s) := by
    have := (Prod.mk.inj hx).1
    rw [hd] at this
    injection this with h2
    exact h2.symm
  have hcell : ∀ (i : Nat) (v : Value), (l.map fun s => Value.string ⟨s.toArray⟩)[i]? = some v → cs[i]? = some v := by
    intro i v hv
    have hi : i < l.length := by simpa using (List.getElem?_eq_some_iff.1 hv).1
    have h1 := hel i hi
    rw [hone] at h1
    have hxi : xs[i]? = some (xs[i]'(by omega)) := List.getElem?_eq_getElem (by omega)
    rw [hxi] at h1
    obtain ⟨s, hk1, hk2, _⟩ := DataW.trod_string hE h1
    have hfst : (xs.map (·.1))[i]? = some (DataW.lit (.string s.data.toList)) := by rw [List.getElem?_map, hxi, Option.map_some, hk2]
    rw [hxd, List.getElem?_map, List.getElem?_eq_getElem hi] at hfst
    simp at hfst
    have hci : cs.toList[i]? = some (.string s) := by
      have : ((cs.toList.drop (i * 1)).take 1)[0]? = some (.string s) := by rw [hk1]; rfl
      simpa [List.getElem?_take, List.getElem?_drop] using this
    rw [List.getElem?_map, List.getElem?_eq_getElem hi, Option.map_some] at hv
    have hv := Option.some.inj hv
    rw [← hv, hfst]
    have e : (⟨s.data.toList.toArray⟩ : ByteArray) = s := by cases s; simp
    rw [e]; simpa using hci
  have hc := cells_of_var hg hvar
  obtain ⟨cs2, e, fr, h1, h2⟩ := hc
  exact ⟨cs2, e, fr, h1, fun i v hv => h2 i v (by have := hcell i v hv; simpa using this)⟩
theorem sent_laid {P : Program} {W : World} {n nm : String} {text : List UInt8} {d : DataW Unit} {g : Nat} {ti tp te ts : TypeId} {ms : Array (String × TypeId)} {f : Field} (hd : d = .iface nm (.ptr (.agg [.lit (.string text)])))
    (h : laidMet P [(n, d)] W) (hg : P.globalNamed n = some g) (ht : (P.globals[g]?).map (·.type) = some ti) (hi : P.underlying ti = some (.interface ms)) (hrow : ∀ u, P.typeName? 3 u = some nm → u = tp)
    (hp : P.underlying tp = some (.pointer te)) (he : P.underlying te = some (.struct #[f])) (hft : f.type = ts) (hfo : f.offset = 0) (hs : P.underlying ts = some .string) (hc : P.cellsOf te = 1) (hcs : P.cellsOf ts = 1) :
    ∃ t p, Cells (imOf W) g 0 [.iface t p] := by
  subst hd
  obtain ⟨a, s, h1, _⟩ := laid_sentinel h hg ht hi hrow hp he hft hfo hs hc hcs
  exact ⟨_, _, cells_of_var hg h1⟩
end Go.Fl
namespace Go
variable {H : Type} {enc : TypeId × Value → H}
theorem returnsInHanded_andS {a : Assume} {C : Checked} {os : Os} {f : FuncId} {fn : Func} {s : ChangeSpec} {conds : List PathCond} {apart fresh handsOn again : Bool} {X : World → Array Value → Prop}
    (hX : ∀ (w w' : World) (args : Array Value), w.heap = w'.heap → X w args → X w' args)
    (own : ownKnob C.prog.godebug = none) (started : os.Started) (noInit : C.prog.inits.idxOf? f = none) (hfn : C.prog.funcs[f]? = some fn)
    (witness : ∃ (w : World) (tape : Tape) (i : Input), w.os = os ∧ (w.forCall tape i).Shaped C.prog ∧ i.vars = [] ∧ Input.okWide C.prog (w.forCall tape i) .any w.heap.size f i ∧
      ((s.pre enc C.prog fn conds apart (w.forCall tape i).memory i.args ∧ X (w.forCall tape i).memory i.args) ∧ sizedMet enc C.prog fn (OpenSpec.ofChange s) apart (w.forCall tape i).memory i.args) ∧ a.holds C.prog (lone (Frame.enter C.prog f i.args .normal) [] (w.forCall tape i)))
    (contract : ∀ (W : World) (base : Nat) (args : Array Value) (ds gs : List (DataW H)) (before : List MemPlace),
      (∀ (j : Nat) t v, fn.params[j]? = some t → args[j]? = some v → Value.okWide C.prog W .any base t v) →
      DataW.Whole enc C.prog fn.params.toList s.vars apart W args.toList ds gs before →
      conds.all (PathCond.test C.prog ⟨fn.params.toList, ds, s.plain.varTypes C.prog, gs⟩) = true →
      W.ShapedOpen C.prog → X W args →
      a.holds C.prog (lone (Frame.enter C.prog f args .normal) [] W) →
      Calls C.prog f args W fun e W' => ∃ v, e = .returned v ∧ s.post enc C.prog fn apart fresh handsOn again W args v W') :
    ReturnsInHanded a C os f .any (fun w args => (s.pre enc C.prog fn conds apart w args ∧ X w args) ∧ sizedMet enc C.prog fn (OpenSpec.ofChange s) apart w args) (s.post enc C.prog fn apart fresh handsOn again) := by
  refine returnsInHanded_of_calls own started noInit witness ?_
  intro w tape i _ hsh _ hok hpre hholds
  obtain ⟨_, _, _, fn', hfn', _, _, _, _, hval⟩ := hok
  have e : fn' = fn := Option.some.inj (hfn'.symm.trans hfn)
  subst e
  obtain ⟨⟨⟨ds, gs, before, hw, hc⟩, hx⟩, hz⟩ := hpre
  refine (contract (w.forCall tape i) w.heap.size i.args ds gs before hval (DataW.Whole.of_heap (w' := w.forCall tape i) (by rfl) hw) hc hsh (hX _ _ _ (by rfl) hx) hholds).mono fun e W' ⟨v, he, hp⟩ => ?_
  subst he
  exact ChangeSpec.post_blind hp
end Go
set_option maxRecDepth 1000000
set_option linter.unusedVariables false
namespace Go.Proofs.YtpkdbddhekffgaaGreatDoor
open Go.Fl Go.Ab Go.Mac Go.Sha
open Go.ChangeShapes Go.WideShapes Go.ChangeAt Go.RowKit
theorem ownK : ownKnob Tryz.prog.godebug = none := by kernel_rfl
theorem laidOutK : laidOutB Tryz.prog = true := by kernel_rfl
def lit1 : DataW Unit → Value
  | .lit (.int k n) => .int k n
  | .lit (.string s) => .string ⟨s.toArray⟩
  | _ => .nilIface
def agg1 : DataW Unit → List Value
  | .agg l => l.map lit1
  | _ => []
def agg2 : DataW Unit → List Value
  | .agg l => (l.map agg1).flatten
  | _ => []
def setV (h : Array Obj) (g : Nat) (cs : List Value) : Array Obj := h.modify g fun
  | .cells _ t frozen => .cells cs.toArray t frozen
  | o => o
noncomputable def kLow : Nat := (World.holding Tryz.prog default ⟨#[], #[], []⟩).heap.size
noncomputable def kWorld (os : Os) : World :=
  let w0 := World.holding Tryz.prog os ⟨#[.cells #[.string ⟨#[118, 97, 108, 117, 101, 32, 111, 117, 116, 32, 111, 102, 32, 114, 97, 110, 103, 101]⟩] 123, .cells #[.string ⟨#[105, 110, 118, 97, 108, 105, 100, 32, 115, 121, 110, 116, 97, 120]⟩] 123], #[], []⟩
  { w0 with heap := setV (setV (setV (setV (setV (setV (setV (setV (setV w0.heap 8 (agg1 Rows.laid_math_bits_deBruijn32tab)) 9 (agg1 Rows.laid_math_bits_deBruijn64tab)) 5 (agg1 Rows.laid_internal_strconv_uint64pow10))
      7 (agg2 Rows.laid_unicode_utf8_acceptRanges)) 1 (agg1 Rows.laid_macaroon_predicate_words)) 0 (agg1 Rows.laid_macaroon_predicate_bits)) 6 (agg1 Rows.laid_unicode_utf8_first))
      4 [.iface 121 (.pointer (some ⟨kLow, 0, none⟩))]) 3 [.iface 121 (.pointer (some ⟨kLow + 1, 0, none⟩))] }
def kLaid : List (String × DataW Unit) := [("math/bits.deBruijn32tab", Rows.laid_math_bits_deBruijn32tab), ("math/bits.deBruijn64tab", Rows.laid_math_bits_deBruijn64tab), ("internal/strconv.uint64pow10", Rows.laid_internal_strconv_uint64pow10), ("unicode/utf8.acceptRanges", Rows.laid_unicode_utf8_acceptRanges), ("strconv.ErrRange", Rows.laid_strconv_ErrRange), ("strconv.ErrSyntax", Rows.laid_strconv_ErrSyntax), ("macaroon/predicate.words", Rows.laid_macaroon_predicate_words), ("macaroon/predicate.bits", Rows.laid_macaroon_predicate_bits), ("unicode/utf8.first", Rows.laid_unicode_utf8_first)]
set_option maxRecDepth 100000 in
theorem k_met (os : Os) (args : Array Value) : laidMet Tryz.prog kLaid ((kWorld os).forCall (fun _ _ => 0) ⟨#[], args, []⟩).memory :=
  laidMet_of_run' 8 (by kernel_rfl) (by kernel_rfl)
set_option maxRecDepth 100000 in
theorem k_bits : kLaid.filter (fun x => x.1 == "macaroon/predicate.bits") = [("macaroon/predicate.bits", Rows.laid_macaroon_predicate_bits)] := by kernel_rfl
set_option maxRecDepth 100000 in
theorem k_words : kLaid.filter (fun x => x.1 == "macaroon/predicate.words") = [("macaroon/predicate.words", Rows.laid_macaroon_predicate_words)] := by kernel_rfl
set_option maxRecDepth 100000 in
theorem k_pow : kLaid.filter (fun x => x.1 == "internal/strconv.uint64pow10") = [("internal/strconv.uint64pow10", Lib.tabData .u64 Lib.pow10Tab)] := by kernel_rfl
set_option maxRecDepth 100000 in
theorem k_errS : kLaid.filter (fun x => x.1 == "strconv.ErrSyntax") = [("strconv.ErrSyntax", Rows.laid_strconv_ErrSyntax)] := by kernel_rfl
set_option maxRecDepth 100000 in
theorem k_errR : kLaid.filter (fun x => x.1 == "strconv.ErrRange") = [("strconv.ErrRange", Rows.laid_strconv_ErrRange)] := by kernel_rfl
theorem k_star : "*" ++ "errors.errorString" = "*errors.errorString" := by decide
theorem k_row (u : TypeId) (h : Tryz.prog.typeName? 3 u = some "*errors.errorString") : u = 121 :=
  typeName_ptr_named (nm := "errors.errorString") (by rw [k_star]; kernel_rfl) (by kernel_rfl) (by decide) u (by rw [k_star]; exact h)
set_option maxRecDepth 100000 in
theorem k_cells {W : World} (h : laidMet Tryz.prog kLaid W) (hs : W.ShapedOpen Tryz.prog) : gl.p (imOf W) := by
  have h1 := h.filter fun x => x.1 == "macaroon/predicate.bits"
  have h2 := h.filter fun x => x.1 == "macaroon/predicate.words"
  have h3 := h.filter fun x => x.1 == "internal/strconv.uint64pow10"
  have h4 := h.filter fun x => x.1 == "strconv.ErrSyntax"
  have h5 := h.filter fun x => x.1 == "strconv.ErrRange"
  rw [k_bits] at h1
  rw [k_words] at h2
  rw [k_pow] at h3
  rw [k_errS] at h4
  rw [k_errR] at h5
  obtain ⟨m, hm⟩ := cell_of_shapedOpen_int (g := 2) (zero := #[.int .i64 0]) (t := 3) hs (of_decide_eq_true (by kernel_rfl)) (by kernel_rfl) rfl (by kernel_rfl) (by kernel_rfl) Tryz.underlying3
  exact ⟨ints_laid (l := bitsA.l) (T := 64) (E := 3) (by kernel_rfl) (by kernel_rfl) Tryz.underlying64 Tryz.underlying3 (by kernel_rfl) (by decide) rfl h1,
    strs_laid (l := wordsA.l.map Str.l) (T := 75) (E := 9) (by kernel_rfl) (by kernel_rfl) Tryz.underlying75 Tryz.underlying9 (by kernel_rfl) (by kernel_rfl) rfl h2,
    ⟨m, cells_of_cell hm⟩,
    im_of_var (by kernel_rfl) (Lib.tabIs_of_head (g := 5) (t := 128) (e := 22) (n := 20) (by kernel_rfl) (by kernel_rfl) Tryz.underlying128 Tryz.underlying22 (by kernel_rfl) (by kernel_rfl) h3),
    sent_laid rfl h4 (by kernel_rfl) (by kernel_rfl) Tryz.underlying80 k_row Tryz.underlying121 Tryz.underlying123 rfl rfl Tryz.underlying9 (by kernel_rfl) (by kernel_rfl),
    sent_laid rfl h5 (by kernel_rfl) (by kernel_rfl) Tryz.underlying80 k_row Tryz.underlying121 Tryz.underlying123 rfl rfl Tryz.underlying9 (by kernel_rfl) (by kernel_rfl)⟩
theorem op3 : Opens Tryz.prog 3 Int := .i64 Tryz.underlying3 (by kernel_rfl)
theorem op22 : Opens Tryz.prog 22 UInt64 := .u64 Tryz.underlying22 (by kernel_rfl)
theorem op9 : Opens Tryz.prog 9 Str := .str Tryz.underlying9 (by kernel_rfl)
theorem op24 : Opens Tryz.prog 24 G_api_Predicate := .struct G_api_Predicate.f (fun b => ⟨b.1, b.2.1, b.2.2.1, b.2.2.2.1, b.2.2.2.2.1, b.2.2.2.2.2.1⟩) (fun _ => rfl) Tryz.underlying24 (by kernel_rfl) (.cons rfl op3 (.cons rfl op22 (.cons rfl op3 (.cons rfl op3 (.cons rfl op9 (.cons rfl op3 .nil))))))
theorem op5 : Opens Tryz.prog 5 UInt8 := .u8 Tryz.underlying5 (by kernel_rfl)
theorem op25 : Opens Tryz.prog 25 (List UInt8) := .slice Tryz.underlying25 (by kernel_rfl) op5 (by decide)
theorem op26 : Opens Tryz.prog 26 (List Int) := .slice Tryz.underlying26 (by kernel_rfl) op3 (by decide)
end Go.Proofs.YtpkdbddhekffgaaGreatDoor
