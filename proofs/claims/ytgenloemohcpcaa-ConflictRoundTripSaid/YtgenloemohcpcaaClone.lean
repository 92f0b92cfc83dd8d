/- Walks: slices.Clone; the closure of Merge. -/
import Derived.Test.YtgenloemohcpcaaIns
import Derived.Maps.OwnOps
import Derived.Sort.KeysCollected
namespace Go.Proofs.Ytgenloemohcpcaa
open Go.RowKit Go.Maps Go.WideMaps

set_option maxRecDepth 100000 in
set_option maxHeartbeats 400000 in
theorem clone_any (A : Option Addr) (c : Nat) (L : List T) (w : World) (hA : RD w A L) (hl : L.length ≤ 10000) : Calls Try.prog 29 #[.slice A L.length c] w (TxtPost L w) := by
  cases A with
  | none =>
    have hL : L = [] := by
      rcases hA with rfl | ⟨a, e, _⟩
      · rfl
      · cases e
    subst hL
    have hq := fun w => Lib.run_eql_slice_nil (P := Try.prog) w 22 9 none 0 c 0 0 Try.underlying22
    simp only [Option.isNone_none] at hq
    go_enter Try.func29, Try.ntmps29
    go_wp2
    go_ret
    exact ⟨none, 0, rfl, Nat.le_refl _, .inl rfl, Below.refl _ _⟩
  | some a =>
    have hq := fun w => Lib.run_eql_slice_nil (P := Try.prog) w 22 9 (some a) L.length c 0 0 Try.underlying22
    simp only [Option.isNone_some] at hq
    have o1 := ot_empty w (Nat.le_refl _)
    have b1 : Below w.heap.size w (w.alloc (.cells #[] 9)) := (Below.refl _ _).alloc (Nat.le_refl _) _
    go_enter Try.func29, Try.ntmps29
    go_wp2_with (first
      | (at_builtin; refine wpList_app _ rfl (.tmp 5) (.tmp 6) rfl w.heap.size (v := .slice (some ⟨w.heap.size, 0, none⟩) 0 0) rfl o1 (M := L) rfl rfl (hA.below b1) (by simp; omega) (by simp) ?_; intro v2 w2 o2 g2 l2; have b2 := ot_below b1 o1 g2))
    go_ret
    rw [List.nil_append] at o2
    obtain ⟨A', c', e', hc', hr', _⟩ := o2.form
    subst e'
    exact ⟨A', c', rfl, hc', hr', b2⟩

theorem law9 : Keyed Try.prog 9 := string_keyed Try.underlying9
theorem zero3 (w : World) : (zeroValue 3).run Try.prog w = .ok (.int .i64 0) w := by kernel_rfl

abbrev i64 (n : Int) : DataW Unit := .lit (.int .i64 n)

/-- A map that counts texts. -/
structure MD (D : DataW Unit) (cnt : T → Int) : Prop where
  map : IsMap D
  at' : ∀ x : T, D.atKey (.string x) (i64 0) = i64 (cnt x)

theorem MD.start : MD (.map []) (fun _ => 0) := ⟨isMap_empty, fun _ => rfl⟩
theorem MD.eq {D : DataW Unit} {cnt : T → Int} (h : MD D cnt) {x : T} {c : Int} (hc : D.atKey (.string x) (i64 0) = i64 c) : c = cnt x := by
  have := h.at' x
  rw [hc] at this
  injection this with this
  injection this
theorem MD.put {D : DataW Unit} {cnt : T → Int} (h : MD D cnt) (x : T) (s : Int) : MD (D.put (.string x) (i64 (cnt x + s))) (fun y => cnt y + if x = y then s else 0) := by
  refine ⟨h.map.put _ _, fun y => ?_⟩
  by_cases e : x = y
  · subst e
    rw [atKey_put_same (k := .string x) h.map (by simp [WideAt.IsKeyLit])]
    simp
  · rw [atKey_put_other (by simpa using fun e' => e e'.symm), h.at']
    simp [e]
theorem MD.cong {D : DataW Unit} {cnt cnt' : T → Int} (h : MD D cnt) (e : ∀ x, cnt x = cnt' x) : MD D cnt' := ⟨h.map, fun x => by rw [h.at', e]⟩
theorem MD.out {D : DataW Unit} {cnt : T → Int} (h : MD D cnt) {x : T} (hx : has D (.string x) = false) : cnt x = 0 := (h.eq (atKey_of_not_has hx _)).symm

theorem key9 {x : T} (h : x.length ≤ 65536) : keyOf Try.prog 9 (tv x) = some (.string x) := by
  have := keyOf_string_mk (P := Try.prog) (k := 9) Try.underlying9 (s := ⟨x.toArray⟩) (by simp [ByteArray.size, maxLen]; omega)
  simpa using this

/-- The state of the map between two rounds. -/
def MapSt (w : World) (bm n : Nat) (cnt : T → Int) : Prop := ∃ D : DataW Unit, w.ownsMap Try.prog 9 (plainElem Try.prog 3) bm n D ∧ MD D cnt

def ClPost (w : World) (bm n : Nat) (cnt : T → Int) (e : Ending) (w' : World) : Prop := e = .returned (.tuple #[]) ∧ MapSt w' bm n cnt ∧ w.grownBy w' (some bm)

theorem map_far {w : World} {bm n : Nat} {cnt : T → Int} (h : MapSt w bm n cnt) {p : Addr} {v : Value} (hp : w.cell? p = some v) : some p.block ≠ some bm := by
  intro e
  obtain ⟨D, ⟨es, cl, hb, _⟩, _⟩ := h
  have e : p.block = bm := by simpa using e
  subst e
  simp [World.cell?, hb] at hp

theorem count_take_succ {L : List T} {k : Nat} (h : k < L.length) (x : T) : ((L.take (k + 1)).count x : Int) = (L.take k).count x + if L[k] = x then 1 else 0 := by
  rw [List.take_succ_eq_append_getElem h, List.count_append, List.count_singleton]
  by_cases e : L[k] = x <;> simp [e]

set_option maxRecDepth 100000 in
set_option maxHeartbeats 1000000 in
theorem tally_any (A : Option Addr) (c : Nat) (L : List T) (sign : Int) (bc bm n : Nat) (cnt : T → Int) (w : World) (hA : RD w A L) (hl : L.length ≤ 10000) (hs : sign = 1 ∨ sign = -1)
    (ht : ∀ x ∈ L, x.length ≤ 65536) (hcell : w.cell? ⟨bc, 0, none⟩ = some (.map (some bm))) (hmap : MapSt w bm n cnt) (hn : n ≤ 100000) (hb : ∀ x, -100000 ≤ cnt x ∧ cnt x ≤ 100000) :
    Calls Try.prog 30 #[.slice A L.length c, .int .i64 sign, .pointer (some ⟨bc, 0, none⟩)] w (ClPost w bm (n + L.length) (fun x => cnt x + sign * L.count x)) := by
  have hs1 : -1 ≤ sign := by omega
  have hs2 : sign ≤ 1 := by omega
  have HS := Lib.hid hs
  have HB := Lib.hid hb
  have HT := Lib.hid ht
  have HM := Lib.hid hmap
  clear hs hb ht hmap
  go_enter Try.func30, Try.ntmps30
  go_wp2_with fail
  go_loopw [6, 9] (fun _ i wr => ∃ k : Nat, k ≤ L.length ∧ i = .int .i64 k ∧ MapSt wr bm (n + k) (fun x => cnt x + sign * (L.take k).count x) ∧ w.grownBy wr (some bm)) (fun _ i _ => L.length - (intOf i).toNat)
  case atStart => exact ⟨0, Nat.zero_le _, rfl, by simpa using HM.out, World.grownBy.refl _ _⟩
  case round =>
    obtain ⟨k, hk, rfl, ⟨D, hown, hD⟩, hg⟩ := hrel
    by_cases hlt : k < L.length
    · obtain ⟨a, rfl, hab, hac⟩ := hA.at hlt
      have hkey := key9 (HT.out L[k] (List.getElem_mem hlt))
      have hac' := hg.cell hac (map_far HM.out hac)
      have hcell' := hg.cell hcell (map_far HM.out hcell)
      have bd : ∀ c : Int, D.atKey (.string L[k]) (i64 0) = i64 c → -200000 ≤ c ∧ c ≤ 200000 := by
        intro c hc
        have h1 := hD.eq hc
        have h2 := HB.out L[k]
        have h3 : (L.take k).count L[k] ≤ (L.take k).length := List.count_le_length
        have h4 : (L.take k).length ≤ L.length := by rw [List.length_take]; omega
        rcases HS.out with e | e
        · rw [e] at h1; omega
        · rw [e] at h1; omega
      have BD := Lib.hid bd
      have HD := Lib.hid hD
      clear bd hD
      go_wp2_with (first
        | (at_lookup; refine wpList_lookup_own_int _ rfl _ _ 48 rfl 9 3 .i64 law9 Try.underlying48 Try.underlying3 (zero3 _) bm (n + k) D rfl hown _ _ rfl hkey ?_; intro c2 hat hwc; have hb2 := (BD.out c2 hat).1; have hb3 := (BD.out c2 hat).2; have HAT := Lib.hid hat; clear hat)
        | (at_mapUpdate; refine wpList_mapUpdate_own _ rfl _ _ _ 48 rfl 9 3 law9 Try.underlying48 _ bm (n + k) D rfl hown (by unfold maxLen; omega) _ _ _ rfl rfl hkey _ [] (plainElem_int Try.underlying3 (WalkArith.wf_i64 (by omega))) ?_; intro w1 hown1 hgrow1))
      have hput := HD.out.put L[k] sign
      rw [← HD.out.eq HAT.out] at hput
      have hst : MapSt w1 bm (n + (k + 1)) (fun x => cnt x + sign * (L.take (k + 1)).count x) := by
        refine ⟨_, hown1, hput.cong fun x => ?_⟩
        rw [count_take_succ hlt]
        rcases HS.out with e | e <;> rw [e] <;> by_cases e' : L[k] = x <;> simp [e'] <;> omega
      have hg1 := hg.trans hgrow1
      clear hown1 hgrow1 hput
      go_roundw
      case rel => exact ⟨k + 1, by omega, by go_num, hst, hg1⟩
      case measure => simp [intOf]; omega
    · go_wp2_with fail
      go_end0
      rw [List.take_of_length_le (by omega)] at hD
      obtain rfl : k = L.length := by omega
      exact ⟨rfl, ⟨D, hown, hD⟩, hg⟩
end Go.Proofs.Ytgenloemohcpcaa
