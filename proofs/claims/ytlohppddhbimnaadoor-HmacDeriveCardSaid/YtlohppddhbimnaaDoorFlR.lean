import Derived.Test.YtlohppddhbimnaaDoorFlB7
import Derived.ProofKit
import Derived.OpenShut
import Derived.ShutString
import Derived.ChangeOld
import Derived.Below
import Derived.LaidLaws
import Derived.Handed
set_option linter.unusedVariables false
/- From a contract to a row. -/
namespace Go.Fl
open Go.ChangeShapes Go.WideShapes Go.ChangeAt Go.RowKit
/-- All that is there does not turn. -/
def imOf (W : World) : Im := fun b => W.heap[b]?
theorem mem_imOf (W : World) : Mem (imOf W) [] W := ⟨fun b o h => h, by simp, by simp, by simp⟩
theorem Fun.calls {P : Program} {f : FuncId} {args : Array Value} {W : World} {r : Value} (h : Fun P f args (imOf W) (fun v _ => v = r)) :
    Calls P f args W (fun e W' => e = .returned r ∧ Below W.heap.size W W') :=
  (h.run W (mem_imOf W)).mono fun e w' ⟨v, J, he, hc, _, _, _, hv⟩ => ⟨by rw [he, hv], ⟨hc.os, hc.tape, hc.output, hc.size, fun k hk => hc.block k hk (by simp)⟩⟩
theorem cell_plain {W : World} {x : Addr} {v : Value} (h : W.cell? x = some v) : x.spot = none ∧ ∃ cs e fr, W.heap[x.block]? = some (.cells cs e fr) ∧ cs[x.off]? = some v := by
  unfold World.cell? at h
  split at h
  · rename_i c e fr heq
    split at h
    · cases h
    · rename_i hs
      exact ⟨by simpa using hs, c, e, fr, heq, h⟩
  · cases h
/-- A slice of bytes that came in. -/
theorem bytes_in {H : Type} {enc : TypeId × Value → H} {P : Program} {W : World} {base : Nat} {spare : Nat → Bool} {held : Bool} {T E : TypeId} {a : Option Addr} {len cap : Nat} {d : DataW H} {p : List MemPlace}
    (hT : P.underlying T = some (.slice E)) (hE : P.underlying E = some (.int .u8)) (hone : P.cellsOf E = 1) (h : DataW.Trod enc P W base spare held T (.slice a len cap) d p) :
    ∃ bs : List UInt8, bs.length = len ∧ Sl (imOf W) 1 (.slice a len cap) len (bytesV bs) := by
  obtain ⟨fuel, hf⟩ := h
  rcases open_ints hT hE hone hf with ⟨hcs, _⟩ | ⟨x, l, c, zs, hcs, _, hl, hm, hz, _, hcell, hwz⟩
  · simp [Value.cells] at hcs
    obtain ⟨rfl, rfl, rfl⟩ := hcs
    exact ⟨[], rfl, Sl.nil _ _⟩
  · simp [Value.cells] at hcs
    obtain ⟨rfl, rfl, rfl⟩ := hcs
    have hzl : len ≤ zs.length := by rw [hz]; split <;> omega
    let bs : List UInt8 := (zs.take len).map fun z => UInt8.ofNat z.toNat
    have hbl : bs.length = len := by simp [bs]; omega
    have hbv : ∀ i v, (bytesV bs)[i]? = some v → W.cell? (x.add i) = some v := by
      intro i v hv
      have hi : i < len := by
        have := (List.getElem?_eq_some_iff.1 hv).1
        rw [bytesV, List.length_map, hbl] at this
        exact this
      have h1 := hcell i (by omega)
      have h9 : i < zs.length := by omega
      have hzi : zs[i]? = some (zs.getD i 0) := by rw [List.getElem?_eq_getElem h9]; simp [List.getD, h9]
      have hw := hwz (zs.getD i 0) (List.mem_of_getElem? hzi)
      simp [Lit.wf, IntKind.min, IntKind.max, IntKind.signed, IntKind.bits] at hw
      rw [h1]
      rw [← hv]
      simp only [bytesV, bs, List.map_map, List.getElem?_map, List.getElem?_take, if_pos hi, hzi, Option.map_some]
      congr 1
      simp only [Function.comp_apply, u8]
      congr 1
      simp
      omega
    refine ⟨bs, hbl, _, _, rfl, by simp [bytesV, hbl], hl, hm, (fun h => by cases h), fun hne => ?_⟩
    rcases x with ⟨xb, xo, xs⟩
    have hl0 : 0 < len := by
      rcases Nat.eq_zero_or_pos len with h | h
      · exact absurd (List.eq_nil_of_length_eq_zero (by rw [bytesV, List.length_map, hbl, h])) hne
      · exact h
    have h0 : ∃ v, (bytesV bs)[0]? = some v := ⟨_, List.getElem?_eq_getElem (by rw [bytesV, List.length_map, hbl]; exact hl0)⟩
    obtain ⟨v0, hv0⟩ := h0
    have hc0 := hbv 0 v0 hv0
    obtain ⟨hsp, cs, e, fr, hob, _⟩ := cell_plain hc0
    have hsp : xs = none := hsp
    subst hsp
    rw [Addr.add_plain] at hob
    have hob : W.heap[xb]? = some (Obj.cells cs e fr) := hob
    refine ⟨xb, xo, rfl, cs, e, fr, hob, fun i v hv => ?_⟩
    have hcv := hbv i v hv
    rw [Addr.add_plain] at hcv
    obtain ⟨_, cs2, e2, fr2, hob2, hv2⟩ := cell_plain hcv
    have : Obj.cells cs e fr = Obj.cells cs2 e2 fr2 := Option.some.inj (hob.symm.trans hob2)
    cases this
    exact hv2
/-- A variable that is laid as an array of words. -/
theorem words_laid {P : Program} {W : World} {n : String} {d : DataW Unit} {l : List UInt32} {g : Nat} {T E : TypeId} (hg : P.globalNamed n = some g) (ht : (P.globals[g]?).map (·.type) = some T) (hT : P.underlying T = some (.array l.length E))
    (hE : P.underlying E = some (.int .u32)) (hone : P.cellsOf E = 1) (hl : 0 < l.length) (hd : d = .agg (l.map fun k => .lit (.int .u32 (k.toNat : Int)))) (h : laidMet P [(n, d)] W) : Cells (imOf W) g 0 (l.map u32) := by
  obtain ⟨ps, ⟨g2, t, cs, fuel, p, q, hg2, ht2, hvar, htr, _, _⟩, _⟩ := h
  obtain rfl := Option.some.inj (hg.symm.trans hg2)
  obtain rfl := Option.some.inj (ht.symm.trans ht2)
  obtain ⟨xs, m, _, hx, hlen, hxl, hel⟩ := DataW.trod_array hT htr
  have hxd : xs.map (·.1) = l.map fun k => DataW.lit (.int .u32 (k.toNat : Int)) := by
    have := (Prod.mk.inj hx).1
    rw [hd] at this
    injection this with h2
    exact h2.symm
  have hcell : ∀ (i : Nat) (v : Value), (l.map u32)[i]? = some v → cs[i]? = some v := by
    intro i v hv
    have hi : i < l.length := by simpa using (List.getElem?_eq_some_iff.1 hv).1
    have h1 := hel i hi
    rw [hone] at h1
    have hxi : xs[i]? = some (xs[i]'(by omega)) := List.getElem?_eq_getElem (by omega)
    rw [hxi] at h1
    obtain ⟨k, hk1, hk2, _⟩ := DataW.trod_int hE h1
    have hfst : (xs.map (·.1))[i]? = some (DataW.lit (.int .u32 k)) := by rw [List.getElem?_map, hxi, Option.map_some, hk2]
    rw [hxd, List.getElem?_map, List.getElem?_eq_getElem hi] at hfst
    simp at hfst
    have hci : cs.toList[i]? = some (.int .u32 k) := by
      have : ((cs.toList.drop (i * 1)).take 1)[0]? = some (.int .u32 k) := by rw [hk1]; rfl
      simpa [List.getElem?_take, List.getElem?_drop] using this
    rw [List.getElem?_map, List.getElem?_eq_getElem hi, Option.map_some] at hv
    have hv := Option.some.inj hv
    rw [← hv, u32, hfst]
    simpa using hci
  have h0 : ∃ v, (l.map u32)[0]? = some v := ⟨_, List.getElem?_eq_getElem (by simpa using hl)⟩
  obtain ⟨v0, hv0⟩ := h0
  have hc0 := World.var?_cell hg hvar 0
  rw [hcell 0 v0 hv0] at hc0
  obtain ⟨_, cs2, e, fr, hob, _⟩ := cell_plain hc0
  refine ⟨cs2, e, fr, hob, fun i v hv => ?_⟩
  have h3 := World.var?_cell hg hvar i
  rw [hcell i v hv] at h3
  obtain ⟨_, cs3, e3, fr3, hob3, hv3⟩ := cell_plain h3
  have : Obj.cells cs2 e fr = Obj.cells cs3 e3 fr3 := Option.some.inj (hob.symm.trans hob3)
  cases this
  simpa using hv3
end Go.Fl
