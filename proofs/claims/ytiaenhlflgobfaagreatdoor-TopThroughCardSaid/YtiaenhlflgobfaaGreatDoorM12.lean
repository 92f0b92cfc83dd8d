/- Walks and words: TpD, TpE, TpF, TpH. -/
import Derived.Test.YtiaenhlflgobfaaGreatDoorM2
namespace Go.Proofs.YtiaenhlflgobfaaGreatDoor
structure Bo where
  label : T
  inA : Bool
  inB : Bool
  a : PM
  b : PM
def zM : PM := ⟨[], [], []⟩
def pairs : List PM → List PM → List Bo
  | [], [] => []
  | x :: a, [] => ⟨x.label, true, false, x, zM⟩ :: pairs a []
  | [], y :: b => ⟨y.label, false, true, zM, y⟩ :: pairs [] b
  | x :: a, y :: b =>
    if x.label < y.label then ⟨x.label, true, false, x, zM⟩ :: pairs a (y :: b)
    else if y.label < x.label then ⟨y.label, false, true, zM, y⟩ :: pairs (x :: a) b
    else ⟨y.label, true, true, x, y⟩ :: pairs a b
termination_by a b => a.length + b.length
def useE (k : Int) (l : T) (us others : List T) : List PT := (us.filter fun u => !others.contains u).map fun u => ⟨k, l, u, [], []⟩
def chgE (k : Int) (l : T) (x y : PD) : List PT := if ment k x = ment k y then [] else [⟨k, l, [], [ment k x], [ment k y]⟩]
def declE (l : T) : List PD → List PD → List PT
  | [], [] => []
  | x :: a, [] => ⟨6, l, [], [x], []⟩ :: declE l a []
  | [], y :: b => ⟨5, l, [], [], [y]⟩ :: declE l [] b
  | x :: a, y :: b =>
    if x.id < y.id then ⟨6, l, [], [x], []⟩ :: declE l a (y :: b)
    else if y.id < x.id then ⟨5, l, [], [], [y]⟩ :: declE l (x :: a) b
    else chgE 7 l x y ++ (chgE 8 l x y ++ (chgE 9 l x y ++ declE l a b))
termination_by a b => a.length + b.length
def addE (p : Bo) : List PT := if p.inA then [] else [⟨1, p.label, [], [], []⟩]
def remE (p : Bo) : List PT := if p.inB then [] else [⟨2, p.label, [], [], []⟩]
def diffP (a b : List PM) : List PT :=
  (pairs a b).flatMap addE ++ ((pairs a b).flatMap (fun p => useE 3 p.label p.b.uses p.a.uses) ++ ((pairs a b).flatMap (fun p => declE p.label p.a.decls p.b.decls) ++ ((pairs a b).flatMap (fun p => useE 4 p.label p.a.uses p.b.uses) ++ (pairs a b).flatMap remE)))
structure Pr (a b : List PM) (ps : List Bo) : Prop where
  asc : Asc Bo.label ps
  fa : a = (ps.filter (·.inA)).map (·.a)
  fb : b = (ps.filter (·.inB)).map (·.b)
  la : ∀ p ∈ ps, p.inA = true → p.a.label = p.label ∧ p.a ∈ a
  lb : ∀ p ∈ ps, p.inB = true → p.b.label = p.label ∧ p.b ∈ b
  za : ∀ p ∈ ps, p.inA = false → p.a = zM
  zb : ∀ p ∈ ps, p.inB = false → p.b = zM
theorem pairs_mem (a b : List PM) : ∀ p ∈ pairs a b, (∃ x ∈ a, p.label = x.label) ∨ ∃ y ∈ b, p.label = y.label := by
  fun_induction pairs a b with
  | case1 => simp
  | case2 x a ih =>
    intro p hp
    rcases List.mem_cons.1 hp with rfl | hp
    · exact .inl ⟨x, by simp, rfl⟩
    · rcases ih p hp with ⟨z, h1, h2⟩ | ⟨z, h1, h2⟩
      · exact .inl ⟨z, by simp [h1], h2⟩
      · cases h1
  | case3 y b ih =>
    intro p hp
    rcases List.mem_cons.1 hp with rfl | hp
    · exact .inr ⟨y, by simp, rfl⟩
    · rcases ih p hp with ⟨z, h1, h2⟩ | ⟨z, h1, h2⟩
      · cases h1
      · exact .inr ⟨z, by simp [h1], h2⟩
  | case4 x a y b h ih =>
    intro p hp
    rcases List.mem_cons.1 hp with rfl | hp
    · exact .inl ⟨x, by simp, rfl⟩
    · rcases ih p hp with ⟨z, h1, h2⟩ | ⟨z, h1, h2⟩
      · exact .inl ⟨z, by simp [h1], h2⟩
      · exact .inr ⟨z, h1, h2⟩
  | case5 x a y b h k ih =>
    intro p hp
    rcases List.mem_cons.1 hp with rfl | hp
    · exact .inr ⟨y, by simp, rfl⟩
    · rcases ih p hp with ⟨z, h1, h2⟩ | ⟨z, h1, h2⟩
      · exact .inl ⟨z, h1, h2⟩
      · exact .inr ⟨z, by simp [h1], h2⟩
  | case6 x a y b h k ih =>
    intro p hp
    rcases List.mem_cons.1 hp with rfl | hp
    · exact .inr ⟨y, by simp, rfl⟩
    · rcases ih p hp with ⟨z, h1, h2⟩ | ⟨z, h1, h2⟩
      · exact .inl ⟨z, by simp [h1], h2⟩
      · exact .inr ⟨z, by simp [h1], h2⟩
theorem pairs_pr (a b : List PM) : Asc PM.label a → Asc PM.label b → Pr a b (pairs a b) := by
  fun_induction pairs a b with
  | case1 => exact fun _ _ => ⟨.nil, rfl, rfl, by simp, by simp, by simp, by simp⟩
  | case2 x a ih =>
    intro ha hb
    obtain ⟨hx, ha⟩ := List.pairwise_cons.1 ha
    have h := ih ha hb
    refine ⟨List.pairwise_cons.2 ⟨fun p hp => ?_, h.asc⟩, by simp [← h.fa], by simpa using h.fb, ?_, ?_, ?_, ?_⟩
    · rcases pairs_mem _ _ p hp with ⟨z, h1, h2⟩ | ⟨z, h1, h2⟩
      · rw [h2]; exact hx z h1
      · cases h1
    · intro p hp hi
      rcases List.mem_cons.1 hp with rfl | hp
      · exact ⟨rfl, by simp⟩
      · exact ⟨(h.la p hp hi).1, by simp [(h.la p hp hi).2]⟩
    · intro p hp hi
      rcases List.mem_cons.1 hp with rfl | hp
      · cases hi
      · exact h.lb p hp hi
    · intro p hp hi
      rcases List.mem_cons.1 hp with rfl | hp
      · cases hi
      · exact h.za p hp hi
    · intro p hp hi
      rcases List.mem_cons.1 hp with rfl | hp
      · rfl
      · exact h.zb p hp hi
  | case3 y b ih =>
    intro ha hb
    obtain ⟨hx, hb⟩ := List.pairwise_cons.1 hb
    have h := ih ha hb
    refine ⟨List.pairwise_cons.2 ⟨fun p hp => ?_, h.asc⟩, by simpa using h.fa, by simp [← h.fb], ?_, ?_, ?_, ?_⟩
    · rcases pairs_mem _ _ p hp with ⟨z, h1, h2⟩ | ⟨z, h1, h2⟩
      · cases h1
      · rw [h2]; exact hx z h1
    · intro p hp hi
      rcases List.mem_cons.1 hp with rfl | hp
      · cases hi
      · exact h.la p hp hi
    · intro p hp hi
      rcases List.mem_cons.1 hp with rfl | hp
      · exact ⟨rfl, by simp⟩
      · exact ⟨(h.lb p hp hi).1, by simp [(h.lb p hp hi).2]⟩
    · intro p hp hi
      rcases List.mem_cons.1 hp with rfl | hp
      · rfl
      · exact h.za p hp hi
    · intro p hp hi
      rcases List.mem_cons.1 hp with rfl | hp
      · cases hi
      · exact h.zb p hp hi
  | case4 x a y b hxy ih =>
    intro ha hb
    obtain ⟨hx, ha⟩ := List.pairwise_cons.1 ha
    have hy := (List.pairwise_cons.1 hb).1
    have h := ih ha hb
    refine ⟨List.pairwise_cons.2 ⟨fun p hp => ?_, h.asc⟩, by simp [← h.fa], by simpa using h.fb, ?_, ?_, ?_, ?_⟩
    · rcases pairs_mem _ _ p hp with ⟨z, h1, h2⟩ | ⟨z, h1, h2⟩
      · rw [h2]; exact hx z h1
      · rw [h2]
        rcases List.mem_cons.1 h1 with rfl | h1
        · exact hxy
        · exact Ord.tr _ _ _ hxy (hy z h1)
    · intro p hp hi
      rcases List.mem_cons.1 hp with rfl | hp
      · exact ⟨rfl, by simp⟩
      · exact ⟨(h.la p hp hi).1, by simp [(h.la p hp hi).2]⟩
    · intro p hp hi
      rcases List.mem_cons.1 hp with rfl | hp
      · cases hi
      · exact h.lb p hp hi
    · intro p hp hi
      rcases List.mem_cons.1 hp with rfl | hp
      · cases hi
      · exact h.za p hp hi
    · intro p hp hi
      rcases List.mem_cons.1 hp with rfl | hp
      · rfl
      · exact h.zb p hp hi
  | case5 x a y b hxy hyx ih =>
    intro ha hb
    have hx := (List.pairwise_cons.1 ha).1
    obtain ⟨hy, hb⟩ := List.pairwise_cons.1 hb
    have h := ih ha hb
    refine ⟨List.pairwise_cons.2 ⟨fun p hp => ?_, h.asc⟩, by simpa using h.fa, by simp [← h.fb], ?_, ?_, ?_, ?_⟩
    · rcases pairs_mem _ _ p hp with ⟨z, h1, h2⟩ | ⟨z, h1, h2⟩
      · rw [h2]
        rcases List.mem_cons.1 h1 with rfl | h1
        · exact hyx
        · exact Ord.tr _ _ _ hyx (hx z h1)
      · rw [h2]; exact hy z h1
    · intro p hp hi
      rcases List.mem_cons.1 hp with rfl | hp
      · cases hi
      · exact h.la p hp hi
    · intro p hp hi
      rcases List.mem_cons.1 hp with rfl | hp
      · exact ⟨rfl, by simp⟩
      · exact ⟨(h.lb p hp hi).1, by simp [(h.lb p hp hi).2]⟩
    · intro p hp hi
      rcases List.mem_cons.1 hp with rfl | hp
      · rfl
      · exact h.za p hp hi
    · intro p hp hi
      rcases List.mem_cons.1 hp with rfl | hp
      · cases hi
      · exact h.zb p hp hi
  | case6 x a y b hxy hyx ih =>
    intro ha hb
    have exy : x.label = y.label := Ord.tri _ _ hxy hyx
    obtain ⟨hx, ha⟩ := List.pairwise_cons.1 ha
    obtain ⟨hy, hb⟩ := List.pairwise_cons.1 hb
    have h := ih ha hb
    refine ⟨List.pairwise_cons.2 ⟨fun p hp => ?_, h.asc⟩, by simp [← h.fa], by simp [← h.fb], ?_, ?_, ?_, ?_⟩
    · rcases pairs_mem _ _ p hp with ⟨z, h1, h2⟩ | ⟨z, h1, h2⟩
      · rw [h2]; show y.label < z.label; rw [← exy]; exact hx z h1
      · rw [h2]; exact hy z h1
    · intro p hp hi
      rcases List.mem_cons.1 hp with rfl | hp
      · exact ⟨exy, by simp⟩
      · exact ⟨(h.la p hp hi).1, by simp [(h.la p hp hi).2]⟩
    · intro p hp hi
      rcases List.mem_cons.1 hp with rfl | hp
      · exact ⟨rfl, by simp⟩
      · exact ⟨(h.lb p hp hi).1, by simp [(h.lb p hp hi).2]⟩
    · intro p hp hi
      rcases List.mem_cons.1 hp with rfl | hp
      · cases hi
      · exact h.za p hp hi
    · intro p hp hi
      rcases List.mem_cons.1 hp with rfl | hp
      · cases hi
      · exact h.zb p hp hi
end Go.Proofs.YtiaenhlflgobfaaGreatDoor
namespace Go.Proofs.YtiaenhlflgobfaaGreatDoor
def applyMs : PM → List PT → Option PM
  | m, [] => some m
  | m, e :: es => (applyM m e).bind fun m' => applyMs m' es
theorem applyMs_append (es fs : List PT) : ∀ m, applyMs m (es ++ fs) = (applyMs m es).bind fun m' => applyMs m' fs := by
  induction es with
  | nil => intro m; rfl
  | cons e es ih =>
    intro m
    simp only [List.cons_append, applyMs]
    cases applyM m e with
    | none => rfl
    | some m' => exact ih m'
theorem applyM_label {m m' : PM} {e : PT} (h : applyM m e = some m') : m'.label = m.label := by
  unfold applyM at h
  split at h
  · split at h
    · cases h
    · cases h; rfl
  split at h
  · split at h
    · cases h; rfl
    · cases h
  split at h
  · split at h
    · split at h
      · cases h
      · cases h; rfl
    · cases h
  split at h
  · split at h
    · split at h
      · split at h
        · split at h
          · cases h; rfl
          · split at h
            · cases h; rfl
            · cases h
        · cases h
      · cases h
    · cases h
  · cases h
theorem applyMs_label {es : List PT} : ∀ {m m' : PM}, applyMs m es = some m' → m'.label = m.label := by
  induction es with
  | nil => intro m m' h; cases h; rfl
  | cons e es ih =>
    intro m m' h
    unfold applyMs at h
    cases hq : applyM m e with
    | none => rw [hq] at h; cases h
    | some m1 =>
      rw [hq] at h
      rw [ih h, applyM_label hq]
theorem applyL_mod {pre post : List PM} : ∀ (es : List PT) {m m' : PM}, Asc PM.label (pre ++ m :: post) → (∀ e ∈ es, e.pack = m.label ∧ e.kind ≠ 1 ∧ e.kind ≠ 2) → applyMs m es = some m' → applyL (pre ++ m :: post) es = some (pre ++ m' :: post)
  | [], m, m', _, _, h => by cases h; rfl
  | e :: es, m, m', ha, he, h => by
    unfold applyMs at h
    cases hq : applyM m e with
    | none => rw [hq] at h; cases h
    | some m1 =>
      rw [hq] at h
      obtain ⟨h1, h2, h3⟩ := he e (by simp)
      have hl := applyM_label hq
      unfold applyL
      rw [apply1_mid ha h1.symm h2 h3, hq]
      exact applyL_mod es (asc_set ha hl) (fun x hx => by rw [hl]; exact he x (by simp [hx])) h
theorem applyL_phase (f g : Bo → PM) (E : Bo → List PT) : ∀ (ps : List Bo) (pre : List PM), Asc PM.label (pre ++ ps.map f) → (∀ p ∈ ps, applyMs (f p) (E p) = some (g p) ∧ ∀ e ∈ E p, e.pack = (f p).label ∧ e.kind ≠ 1 ∧ e.kind ≠ 2) → applyL (pre ++ ps.map f) (ps.flatMap E) = some (pre ++ ps.map g)
  | [], pre, _, _ => rfl
  | p :: ps, pre, ha, h => by
    obtain ⟨h1, h2⟩ := h p (by simp)
    rw [List.flatMap_cons, applyL_append, List.map_cons]
    rw [List.map_cons] at ha
    rw [applyL_mod _ ha h2 h1]
    have hl := applyMs_label h1
    have ha2 := asc_set ha hl
    have e0 : ∀ r : List PM, pre ++ g p :: r = (pre ++ [g p]) ++ r := fun r => by simp
    simp only [Option.bind_some, List.map_cons]
    rw [e0 (ps.map f), e0 (ps.map g)]
    rw [e0 (ps.map f)] at ha2
    exact applyL_phase f g E ps _ ha2 (fun q hq => h q (by simp [hq]))
def addAll (L xs : List T) : List T := xs.foldl (fun L x => insK id L x) L
def delAll (L xs : List T) : List T := xs.foldl (fun L x => delK id L x) L
theorem add_all (l : T) (ds : List PD) : ∀ (xs L : List T), L.Pairwise (· < ·) → xs.Nodup → (∀ x ∈ xs, x ∉ L) → applyMs ⟨l, L, ds⟩ (xs.map fun u => ⟨3, l, u, [], []⟩) = some ⟨l, addAll L xs, ds⟩ ∧ (addAll L xs).Pairwise (· < ·) ∧ ∀ y, y ∈ addAll L xs ↔ y ∈ L ∨ y ∈ xs
  | [], L, hL, _, _ => ⟨rfl, hL, fun y => by simp [addAll]⟩
  | x :: xs, L, hL, hn, hx => by
    obtain ⟨n1, n2⟩ := List.nodup_cons.1 hn
    have hg : hasK id L x = false := by
      cases hq : hasK id L x with
      | false => rfl
      | true =>
        obtain ⟨y, hy, e⟩ := (hasK_iff (key := (id : T → T)) (p := x) hL).1 hq
        exact absurd (show x ∈ L by cases e; exact hy) (hx x (by simp))
    obtain ⟨pre, post, e0, g1, g2⟩ := gap_of (key := (id : T → T)) hL hg
    have hi : insK id L x = pre ++ x :: post := by rw [e0]; exact insK_gap g1 g2
    have ha : (insK id L x).Pairwise (· < ·) := by
      rw [hi]
      rw [e0] at hL
      exact asc_ins (key := (id : T → T)) hL g1 g2
    have hm : ∀ y, y ∈ insK id L x ↔ y ∈ L ∨ y = x := by
      intro y
      rw [hi, e0]
      simp only [List.mem_append, List.mem_cons]
      constructor
      · rintro (h | h | h)
        · exact .inl (.inl h)
        · exact .inr h
        · exact .inl (.inr h)
      · rintro ((h | h) | h)
        · exact .inl h
        · exact .inr (.inr h)
        · exact .inr (.inl h)
    obtain ⟨h1, h2, h3⟩ := add_all l ds xs (insK id L x) ha n2 (fun y hy hl => by
      rcases (hm y).1 hl with h | rfl
      · exact hx y (by simp [hy]) h
      · exact n1 hy)
    refine ⟨?_, h2, fun y => ?_⟩
    · rw [List.map_cons]
      unfold applyMs applyM
      simp only [if_true, hg]
      exact h1
    · show y ∈ addAll (insK id L x) xs ↔ _
      rw [h3 y, hm y, List.mem_cons, or_assoc]
theorem del_all (l : T) (ds : List PD) : ∀ (xs L : List T), L.Pairwise (· < ·) → xs.Nodup → (∀ x ∈ xs, x ∈ L) → applyMs ⟨l, L, ds⟩ (xs.map fun u => ⟨4, l, u, [], []⟩) = some ⟨l, delAll L xs, ds⟩ ∧ (delAll L xs).Pairwise (· < ·) ∧ ∀ y, y ∈ delAll L xs ↔ y ∈ L ∧ y ∉ xs
  | [], L, hL, _, _ => ⟨rfl, hL, fun y => by simp [delAll]⟩
  | x :: xs, L, hL, hn, hx => by
    obtain ⟨n1, n2⟩ := List.nodup_cons.1 hn
    have hg : hasK id L x = true := (hasK_iff (key := (id : T → T)) (p := x) hL).2 ⟨x, hx x (by simp), rfl⟩
    obtain ⟨pre, z, post, e0, ez⟩ := mid_of (key := (id : T → T)) hL hg
    obtain rfl : x = z := ez.symm
    have hL' := hL
    rw [e0] at hL'
    have hi : delK id L x = pre ++ post := by rw [e0]; exact delK_mid (key := (id : T → T)) hL'
    have ha : (delK id L x).Pairwise (· < ·) := by
      rw [hi]
      exact asc_del (key := (id : T → T)) hL'
    obtain ⟨g1, g2⟩ := mid_lt (key := (id : T → T)) hL'
    have hm : ∀ y, y ∈ delK id L x ↔ y ∈ L ∧ y ≠ x := by
      intro y
      rw [hi, e0]
      simp only [List.mem_append, List.mem_cons]
      constructor
      · rintro (h | h)
        · exact ⟨.inl h, fun e => by subst e; exact Ord.irr _ (g1 _ h)⟩
        · exact ⟨.inr (.inr h), fun e => by subst e; exact Ord.irr _ (g2 _ h)⟩
      · rintro ⟨h | h | h, hne⟩
        · exact .inl h
        · exact absurd h hne
        · exact .inr h
    obtain ⟨h1, h2, h3⟩ := del_all l ds xs (delK id L x) ha n2 (fun y hy => (hm y).2 ⟨hx y (by simp [hy]), fun e => n1 (by rw [← e]; exact hy)⟩)
    refine ⟨?_, h2, fun y => ?_⟩
    · rw [List.map_cons]
      unfold applyMs applyM
      simp only [show ¬ (4 : Int) = 3 by decide, if_false, if_true, hg]
      exact h1
    · show y ∈ delAll (delK id L x) xs ↔ _
      rw [h3 y, hm y, List.mem_cons, not_or, and_assoc]
theorem ment_id (k : Int) (d : PD) : (ment k d).id = d.id := by
  unfold ment
  split
  · rfl
  · split
    · rfl
    · split <;> rfl
theorem ment_ment (k : Int) (d : PD) : ment k (ment k d) = ment k d := by
  unfold ment
  by_cases h7 : k = 7
  · simp [h7]
  · by_cases h8 : k = 8
    · simp [h8]
    · by_cases h9 : k = 9
      · simp [h9]
      · simp [h7, h8, h9]
theorem chg_mid {l : T} {us : List T} {pre post : List PD} {k : Int} {x y d : PD} (h0 : 7 ≤ k) (h1 : k ≤ 9) (ha : Asc PD.id (pre ++ d :: post)) (hx : d.id = x.id) (hm : ment k d = ment k x) (heq : ment k x = ment k y → upd k d (ment k y) = d) :
    applyMs ⟨l, us, pre ++ d :: post⟩ (chgE k l x y) = some ⟨l, us, pre ++ upd k d (ment k y) :: post⟩ := by
  unfold chgE
  by_cases he : ment k x = ment k y
  · rw [if_pos he, heq he]; rfl
  · rw [if_neg he]
    unfold applyMs applyM
    simp only [if_neg (show ¬ k = 3 by omega), if_neg (show ¬ k = 4 by omega), if_neg (show ¬ k = 5 by omega), if_neg (show ¬ k = 6 by omega)]
    have hp := pos_mid ha
    rw [hx] at hp
    rw [ment_id, hp, at_mid]
    simp only [hx, if_true, hm, set_mid]
    rfl
theorem upd_all {x y : PD} (h : x.id = y.id) : upd 9 (upd 8 (upd 7 x (ment 7 y)) (ment 8 y)) (ment 9 y) = y := by
  obtain ⟨a, b, c, d, e, f⟩ := x
  obtain ⟨a', b', c', d', e', f'⟩ := y
  simp only at h
  subst h
  simp [upd, ment]
theorem decl_all (l : T) (us : List T) : ∀ (a b : List PD) (P : List PD), Asc PD.id (P ++ a) → Asc PD.id (P ++ b) → applyMs ⟨l, us, P ++ a⟩ (declE l a b) = some ⟨l, us, P ++ b⟩ := by
  intro a b
  fun_induction declE l a b with
  | case1 => intro P _ _; rfl
  | case2 x a ih =>
    intro P ha hb
    unfold applyMs applyM
    simp only [show ¬ (6 : Int) = 3 by decide, show ¬ (6 : Int) = 4 by decide, show ¬ (6 : Int) = 5 by decide, if_false, if_true]
    rw [pos_mid ha, at_mid]
    simp only [ment6, if_true]
    rw [delK_mid ha]
    exact ih P (asc_del ha) hb
  | case3 y b ih =>
    intro P ha hb
    unfold applyMs applyM
    simp only [show ¬ (5 : Int) = 3 by decide, show ¬ (5 : Int) = 4 by decide, if_false, if_true]
    obtain ⟨g1, g2⟩ := mid_lt hb
    have t1 := hasK_gap (key := PD.id) (post := []) g1 (by simp)
    have t3 := insK_gap (key := PD.id) (post := []) g1 (by simp)
    rw [t1, t3]
    have e0 : P ++ y :: b = (P ++ [y]) ++ b := by simp
    rw [e0] at hb ⊢
    have := ih (P ++ [y]) (by simpa using (asc_ins (key := PD.id) (post := []) ha g1 (by simp))) hb
    simpa using this
  | case4 x a y b hxy ih =>
    intro P ha hb
    unfold applyMs applyM
    simp only [show ¬ (6 : Int) = 3 by decide, show ¬ (6 : Int) = 4 by decide, show ¬ (6 : Int) = 5 by decide, if_false, if_true]
    rw [pos_mid ha, at_mid]
    simp only [ment6, if_true]
    rw [delK_mid ha]
    exact ih P (asc_del ha) hb
  | case5 x a y b hxy hyx ih =>
    intro P ha hb
    unfold applyMs applyM
    simp only [show ¬ (5 : Int) = 3 by decide, show ¬ (5 : Int) = 4 by decide, if_false, if_true]
    obtain ⟨g1, g2⟩ := mid_lt hb
    obtain ⟨g3, g4⟩ := mid_lt ha
    have g5 : ∀ z ∈ x :: a, y.id < z.id := by
      intro z hz
      rcases List.mem_cons.1 hz with rfl | hz
      · exact hyx
      · exact Ord.tr _ _ _ hyx (g4 z hz)
    have t1 := hasK_gap (key := PD.id) g1 g5
    have t3 := insK_gap (key := PD.id) g1 g5
    rw [t1, t3]
    have e0 : ∀ r : List PD, P ++ y :: r = (P ++ [y]) ++ r := fun r => by simp
    have ha2 := asc_ins (key := PD.id) ha g1 g5
    rw [e0] at hb ha2
    have := ih (P ++ [y]) ha2 hb
    simpa using this
  | case6 x a y b hxy hyx ih =>
    intro P ha hb
    have exy : x.id = y.id := Ord.tri _ _ hxy hyx
    rw [applyMs_append, chg_mid (d := x) (by decide) (by decide) ha rfl rfl (fun h => by
      have h2 : ∀ z w : PD, ment 7 z = ment 7 w → z.names = w.names := fun z w h => by simpa [ment] using congrArg PD.names h
      have h2 := h2 _ _ h
      obtain ⟨a1, a2, a3, a4, a5, a6⟩ := x
      simp only at h2
      simp [upd, ment, h2])]
    simp only [Option.bind_some]
    have ha1 := asc_set ha (upd_id 7 x (ment 7 y))
    rw [applyMs_append, chg_mid (d := upd 7 x (ment 7 y)) (by decide) (by decide) ha1 (upd_id _ _ _) (by simp [upd, ment]) (fun h => by
      have h2 : ∀ z w : PD, ment 8 z = ment 8 w → z.body = w.body := fun z w h => by simpa [ment] using congrArg PD.body h
      have h2 := h2 _ _ h
      obtain ⟨a1, a2, a3, a4, a5, a6⟩ := x
      simp only at h2
      simp [upd, ment, h2])]
    simp only [Option.bind_some]
    have ha2 := asc_set ha1 (upd_id 8 (upd 7 x (ment 7 y)) (ment 8 y))
    rw [applyMs_append, chg_mid (d := upd 8 (upd 7 x (ment 7 y)) (ment 8 y)) (by decide) (by decide) ha2 (by rw [upd_id, upd_id]) (by simp [upd, ment]) (fun h => by
      have h2 : ∀ z w : PD, ment 9 z = ment 9 w → z.kind = w.kind ∧ z.pub = w.pub ∧ z.doubt = w.doubt := fun z w h => ⟨by simpa [ment] using congrArg PD.kind h, by simpa [ment] using congrArg PD.pub h, by simpa [ment] using congrArg PD.doubt h⟩
      obtain ⟨h2, h3, h4⟩ := h2 _ _ h
      obtain ⟨a1, a2, a3, a4, a5, a6⟩ := x
      simp only at h2 h3 h4
      simp [upd, ment, h2, h3, h4])]
    simp only [Option.bind_some]
    rw [upd_all exy]
    have ha3 : Asc PD.id (P ++ y :: a) := asc_set ha exy.symm
    have e0 : ∀ r : List PD, P ++ y :: r = (P ++ [y]) ++ r := fun r => by simp
    rw [e0] at hb ha3
    rw [e0 a, e0 b]
    exact ih (P ++ [y]) ha3 hb
end Go.Proofs.YtiaenhlflgobfaaGreatDoor
namespace Go.Proofs.YtiaenhlflgobfaaGreatDoor
def f1 (p : Bo) : PM := ⟨p.label, p.a.uses, p.a.decls⟩
def f2 (p : Bo) : PM := ⟨p.label, addAll p.a.uses (p.b.uses.filter fun u => !p.a.uses.contains u), p.a.decls⟩
def f3 (p : Bo) : PM := ⟨p.label, addAll p.a.uses (p.b.uses.filter fun u => !p.a.uses.contains u), p.b.decls⟩
def f4 (p : Bo) : PM := ⟨p.label, p.b.uses, p.b.decls⟩
theorem asc_map {f : Bo → PM} (hf : ∀ p, (f p).label = p.label) {ps : List Bo} (h : Asc Bo.label ps) : Asc PM.label (ps.map f) := by
  refine List.pairwise_map.2 (h.imp fun {x y} hxy => ?_)
  rw [hf, hf]; exact hxy
theorem adds_ok : ∀ (ps : List Bo) (pre : List PM), Asc PM.label (pre ++ ps.map f1) → (∀ p ∈ ps, p.inA = true → p.a.label = p.label) → (∀ p ∈ ps, p.inA = false → p.a = zM) →
    applyL (pre ++ (ps.filter (·.inA)).map (·.a)) (ps.flatMap addE) = some (pre ++ ps.map f1)
  | [], pre, _, _, _ => by simp [applyL]
  | p :: ps, pre, ha, hl, hz => by
    have e0 : ∀ (x : PM) (r : List PM), pre ++ x :: r = (pre ++ [x]) ++ r := fun x r => by simp
    have key : (p.inA = true ∧ f1 p = p.a ∧ addE p = []) ∨ (p.inA = false ∧ f1 p = ⟨p.label, [], []⟩ ∧ addE p = [⟨1, p.label, [], [], []⟩]) := by
      cases hi : p.inA with
      | true =>
        refine .inl ⟨rfl, ?_, by simp [addE, hi]⟩
        have := hl p (by simp) hi
        unfold f1
        rw [← this]
      | false =>
        refine .inr ⟨rfl, ?_, by simp [addE, hi]⟩
        have := hz p (by simp) hi
        unfold f1
        rw [this]; rfl
    rw [List.map_cons] at ha
    have ha2 := ha
    rw [e0] at ha2
    have ih := adds_ok ps (pre ++ [f1 p]) ha2 (fun q hq => hl q (by simp [hq])) (fun q hq => hz q (by simp [hq]))
    rw [List.flatMap_cons, List.map_cons, e0 (f1 p)]
    rcases key with ⟨hi, hf, he⟩ | ⟨hi, hf, he⟩
    · rw [he, List.nil_append, List.filter_cons_of_pos (by simpa using hi), List.map_cons, ← hf, e0 (f1 p)]
      exact ih
    · rw [he, List.filter_cons_of_neg (by simp [hi])]
      obtain ⟨g1, g2⟩ := mid_lt ha
      have g3 : ∀ x ∈ (ps.filter (·.inA)).map (·.a), (f1 p).label < x.label := by
        intro x hx
        obtain ⟨q, hq, rfl⟩ := List.mem_map.1 hx
        obtain ⟨hq1, hq2⟩ := List.mem_filter.1 hq
        rw [hl q (by simp [hq1]) (by simpa using hq2)]
        exact g2 (f1 q) (List.mem_map.2 ⟨q, hq1, rfl⟩)
      have t1 := hasK_gap (key := PM.label) g1 g3
      have t3 := insK_gap (key := PM.label) g1 g3
      show applyL _ (_ :: ps.flatMap addE) = _
      unfold applyL apply1
      simp only [if_true]
      rw [hf] at t1 t3 ih ⊢
      simp only at t1
      rw [t1, t3]
      rw [e0]
      exact ih
theorem rems_ok : ∀ (ps : List Bo) (pre : List PM), Asc PM.label (pre ++ ps.map f4) → (∀ p ∈ ps, p.inB = true → p.b.label = p.label) → (∀ p ∈ ps, p.inB = false → p.b = zM) →
    applyL (pre ++ ps.map f4) (ps.flatMap remE) = some (pre ++ (ps.filter (·.inB)).map (·.b))
  | [], pre, _, _, _ => by simp [applyL]
  | p :: ps, pre, ha, hl, hz => by
    have e0 : ∀ (x : PM) (r : List PM), pre ++ x :: r = (pre ++ [x]) ++ r := fun x r => by simp
    rw [List.map_cons] at ha
    rw [List.flatMap_cons, List.map_cons]
    cases hi : p.inB with
    | true =>
      have hf : f4 p = p.b := by
        have := hl p (by simp) hi
        unfold f4
        rw [← this]
      have ha2 := ha
      rw [e0] at ha2
      have ih := rems_ok ps (pre ++ [f4 p]) ha2 (fun q hq => hl q (by simp [hq])) (fun q hq => hz q (by simp [hq]))
      rw [show remE p = [] by simp [remE, hi], List.nil_append, List.filter_cons_of_pos (by simpa using hi), List.map_cons, ← hf]
      simpa using ih
    | false =>
      have hf : f4 p = ⟨p.label, [], []⟩ := by
        have := hz p (by simp) hi
        unfold f4
        rw [this]; rfl
      have ih := rems_ok ps pre (asc_del ha) (fun q hq => hl q (by simp [hq])) (fun q hq => hz q (by simp [hq]))
      rw [show remE p = [⟨2, p.label, [], [], []⟩] by simp [remE, hi], List.filter_cons_of_neg (by simp [hi])]
      have t1 := pos_mid ha
      have t2 := delK_mid ha
      show applyL _ (_ :: ps.flatMap remE) = _
      unfold applyL apply1
      rw [hf] at t1 t2 ⊢
      simp only [show ¬ (2 : Int) = 1 by decide, if_false] at t1 t2 ⊢
      rw [t1, at_mid]
      simp only [and_self, if_true]
      rw [t2]
      exact ih
theorem use_edits {O : Oks} {k : Int} (hk : k = 3 ∨ k = 4) {l : T} (hl : O.lab l = true) {us vs : List T} (h : ∀ u ∈ us, O.lab u = true ∧ O.use l u = true) : ∀ e ∈ useE k l us vs, O.Edit e ∧ e.pack = l ∧ e.kind ≠ 1 ∧ e.kind ≠ 2 := by
  intro e he
  unfold useE at he
  obtain ⟨u, hu, rfl⟩ := List.mem_map.1 he
  obtain ⟨h1, h2⟩ := h u (List.mem_filter.1 hu |>.1)
  refine ⟨⟨by show 1 ≤ k; omega, by show k ≤ 9; omega, fits_of ?_ ?_ (.inr ?_) (.inl ?_), fun m hm => ?_⟩, rfl, ?_, ?_⟩
  · rcases hk with rfl | rfl <;> rfl
  · rcases hk with rfl | rfl <;> rfl
  · rcases hk with rfl | rfl
    · exact .inl rfl
    · exact .inr rfl
  · show k < 7; omega
  · have hm' : m = ⟨l, [u], []⟩ := by
      rcases hk with rfl | rfl <;> simpa [tests] using hm
    subst hm'
    exact ⟨hl, fun v hv => by rw [List.mem_singleton.1 hv]; exact ⟨h1, h2⟩, List.pairwise_singleton _ _, by simp, .nil, O.rest1 l u⟩
  · show ¬ k = 1; omega
  · show ¬ k = 2; omega
theorem Oks.one {O : Oks} {l : T} (hl : O.lab l = true) {d : PD} (h : O.Decl l d) : O.Mod ⟨l, [], [d]⟩ :=
  ⟨hl, by simp, .nil, fun x hx => by rw [List.mem_singleton.1 hx]; exact h, List.pairwise_singleton _ _, O.rest2 l d⟩
theorem Oks.none {O : Oks} {l : T} (hl : O.lab l = true) : O.Mod ⟨l, [], []⟩ := ⟨hl, by simp, .nil, by simp, .nil, O.rest0 l⟩
theorem complete_ok {O : Oks} {l : T} {k : Int} {d : PD} (hk : k = 7 ∨ k = 8 ∨ k = 9) (h : O.Decl l d) : O.Decl l (complete k (ment k d)) := by
  obtain ⟨a, b, c, d1, e⟩ := h
  rcases hk with rfl | rfl | rfl
  · exact ⟨by simpa [complete, ment] using a, by simpa [complete, ment] using b, by simp [complete], by simpa [complete, ment] using d1, by simpa [complete] using O.bodyN l⟩
  · exact ⟨by simpa [complete, ment] using a, by simpa [complete, ment] using b, by simp [complete], by simpa [complete] using O.namesA, by simpa [complete, ment] using e⟩
  · exact ⟨by simpa [complete, ment] using a, by simpa [complete, ment] using b, by simpa [complete, ment] using c, by simpa [complete] using O.namesA, by simpa [complete] using O.bodyN l⟩
theorem chg_edits {O : Oks} {k : Int} (hk : k = 7 ∨ k = 8 ∨ k = 9) {l : T} (hl : O.lab l = true) {x y : PD} (hx : O.Decl l x) (hy : O.Decl l y) (e0 : x.id = y.id) : ∀ e ∈ chgE k l x y, O.Edit e ∧ e.pack = l ∧ e.kind ≠ 1 ∧ e.kind ≠ 2 := by
  intro e he
  unfold chgE at he
  split at he
  · cases he
  rename_i hne
  obtain rfl := List.mem_singleton.1 he
  have h7 : 7 ≤ k := by omega
  refine ⟨⟨by show 1 ≤ k; omega, by show k ≤ 9; omega, fits_of ?_ ?_ (.inl rfl) (.inr ?_), fun m hm => ?_⟩, rfl, ?_, ?_⟩
  · show _ = if k = 6 ∨ 7 ≤ k then 1 else 0
    rw [if_pos (.inr h7)]; rfl
  · show _ = if k = 5 ∨ 7 ≤ k then 1 else 0
    rw [if_pos (.inr h7)]; rfl
  · unfold fitsLast
    simp only [Bool.and_eq_true, decide_eq_true_eq, Bool.not_eq_true', decide_eq_false_iff_not]
    exact ⟨⟨⟨(ment_ment k x).symm, (ment_ment k y).symm⟩, by rw [ment_id, ment_id, e0]⟩, hne⟩
  · unfold tests at hm
    simp only [if_neg (show ¬ (k = 1 ∨ k = 2) by omega), if_neg (show ¬ (k = 3 ∨ k = 4) by omega)] at hm
    obtain ⟨d, hd, rfl⟩ := List.mem_map.1 hm
    refine Oks.one hl ?_
    simp only [List.cons_append, List.nil_append, List.mem_cons, List.not_mem_nil, or_false] at hd
    rcases hd with rfl | rfl
    · exact complete_ok hk hx
    · exact complete_ok hk hy
  · show ¬ k = 1; omega
  · show ¬ k = 2; omega
theorem decl_edits {O : Oks} {l : T} (hl : O.lab l = true) (a b : List PD) : (∀ d ∈ a, O.Decl l d) → (∀ d ∈ b, O.Decl l d) → ∀ e ∈ declE l a b, O.Edit e ∧ e.pack = l ∧ e.kind ≠ 1 ∧ e.kind ≠ 2 := by
  have rem : ∀ x, O.Decl l x → O.Edit ⟨6, l, [], [x], []⟩ := fun x hx => ⟨by show (1 : Int) ≤ 6; decide, by show (6 : Int) ≤ 9; decide, fits_of rfl rfl (.inl rfl) (.inl (by show (6 : Int) < 7; decide)), fun m hm => by
    obtain rfl : m = ⟨l, [], [x]⟩ := by simpa [tests, complete] using hm
    exact Oks.one hl hx⟩
  have add : ∀ x, O.Decl l x → O.Edit ⟨5, l, [], [], [x]⟩ := fun x hx => ⟨by show (1 : Int) ≤ 5; decide, by show (5 : Int) ≤ 9; decide, fits_of rfl rfl (.inl rfl) (.inl (by show (5 : Int) < 7; decide)), fun m hm => by
    obtain rfl : m = ⟨l, [], [x]⟩ := by simpa [tests, complete] using hm
    exact Oks.one hl hx⟩
  have k6 : (6 : Int) ≠ 1 ∧ (6 : Int) ≠ 2 := ⟨by decide, by decide⟩
  have k5 : (5 : Int) ≠ 1 ∧ (5 : Int) ≠ 2 := ⟨by decide, by decide⟩
  fun_induction declE l a b with
  | case1 => intro _ _ e he; cases he
  | case2 x a ih =>
    intro ha hb e he
    rcases List.mem_cons.1 he with rfl | he
    · exact ⟨rem x (ha x (by simp)), rfl, k6⟩
    · exact ih (fun d hd => ha d (by simp [hd])) hb e he
  | case3 y b ih =>
    intro ha hb e he
    rcases List.mem_cons.1 he with rfl | he
    · exact ⟨add y (hb y (by simp)), rfl, k5⟩
    · exact ih ha (fun d hd => hb d (by simp [hd])) e he
  | case4 x a y b hxy ih =>
    intro ha hb e he
    rcases List.mem_cons.1 he with rfl | he
    · exact ⟨rem x (ha x (by simp)), rfl, k6⟩
    · exact ih (fun d hd => ha d (by simp [hd])) hb e he
  | case5 x a y b hxy hyx ih =>
    intro ha hb e he
    rcases List.mem_cons.1 he with rfl | he
    · exact ⟨add y (hb y (by simp)), rfl, k5⟩
    · exact ih ha (fun d hd => hb d (by simp [hd])) e he
  | case6 x a y b hxy hyx ih =>
    intro ha hb e he
    have exy : x.id = y.id := Ord.tri _ _ hxy hyx
    have hx := ha x (by simp)
    have hy := hb y (by simp)
    simp only [List.mem_append] at he
    rcases he with he | he | he | he
    · exact chg_edits (.inl rfl) hl hx hy exy e he
    · exact chg_edits (.inr (.inl rfl)) hl hx hy exy e he
    · exact chg_edits (.inr (.inr rfl)) hl hx hy exy e he
    · exact ih (fun d hd => ha d (by simp [hd])) (fun d hd => hb d (by simp [hd])) e he
theorem diff_ok {O : Oks} {a b : List PM} (ha : O.Mods a) (hb : O.Mods b) : applyL a (diffP a b) = some b ∧ ∀ e ∈ diffP a b, O.Edit e := by
  have P := pairs_pr a b ha.asc hb.asc
  obtain ⟨ps, hps⟩ : ∃ ps, pairs a b = ps := ⟨_, rfl⟩
  have hl : ∀ p ∈ ps, O.lab p.label = true := by
    intro p hp
    rw [← hps] at hp
    rcases pairs_mem a b p hp with ⟨x, h1, h2⟩ | ⟨x, h1, h2⟩
    · rw [h2]; exact (ha.mods x h1).lab
    · rw [h2]; exact (hb.mods x h1).lab
  rw [hps] at P
  have mA : ∀ p ∈ ps, (∀ u ∈ p.a.uses, O.lab u = true ∧ O.use p.label u = true) ∧ p.a.uses.Pairwise (· < ·) ∧ (∀ d ∈ p.a.decls, O.Decl p.label d) ∧ Asc PD.id p.a.decls := by
    intro p hp
    cases hi : p.inA with
    | true =>
      obtain ⟨h1, h2⟩ := P.la p hp hi
      have h3 := ha.mods _ h2
      rw [← h1]
      exact ⟨h3.uses, h3.uasc, h3.decls, h3.dasc⟩
    | false =>
      rw [P.za p hp hi]
      exact ⟨by simp [zM], .nil, by simp [zM], .nil⟩
  have mB : ∀ p ∈ ps, (∀ u ∈ p.b.uses, O.lab u = true ∧ O.use p.label u = true) ∧ p.b.uses.Pairwise (· < ·) ∧ (∀ d ∈ p.b.decls, O.Decl p.label d) ∧ Asc PD.id p.b.decls := by
    intro p hp
    cases hi : p.inB with
    | true =>
      obtain ⟨h1, h2⟩ := P.lb p hp hi
      have h3 := hb.mods _ h2
      rw [← h1]
      exact ⟨h3.uses, h3.uasc, h3.decls, h3.dasc⟩
    | false =>
      rw [P.zb p hp hi]
      exact ⟨by simp [zM], .nil, by simp [zM], .nil⟩
  have nd : ∀ {l : List T}, l.Pairwise (· < ·) → l.Nodup := fun h => h.imp fun {x y} hxy e => by subst e; exact Ord.irr _ hxy
  have e3 : ∀ p ∈ ps, ∀ e ∈ useE 3 p.label p.b.uses p.a.uses, O.Edit e ∧ e.pack = p.label ∧ e.kind ≠ 1 ∧ e.kind ≠ 2 := fun p hp => use_edits (.inl rfl) (hl p hp) (mB p hp).1
  have e4 : ∀ p ∈ ps, ∀ e ∈ useE 4 p.label p.a.uses p.b.uses, O.Edit e ∧ e.pack = p.label ∧ e.kind ≠ 1 ∧ e.kind ≠ 2 := fun p hp => use_edits (.inr rfl) (hl p hp) (mA p hp).1
  have e5 : ∀ p ∈ ps, ∀ e ∈ declE p.label p.a.decls p.b.decls, O.Edit e ∧ e.pack = p.label ∧ e.kind ≠ 1 ∧ e.kind ≠ 2 := fun p hp => decl_edits (hl p hp) _ _ (mA p hp).2.2.1 (mB p hp).2.2.1
  have p1 := adds_ok ps [] (by simpa using asc_map (f := f1) (fun _ => rfl) P.asc) (fun p hp hi => (P.la p hp hi).1) P.za
  have p2 := applyL_phase f1 f2 (fun p => useE 3 p.label p.b.uses p.a.uses) ps [] (by simpa using asc_map (f := f1) (fun _ => rfl) P.asc) (fun p hp => by
    refine ⟨?_, fun e he => (e3 p hp e he).2⟩
    exact (add_all p.label p.a.decls _ p.a.uses (mA p hp).2.1 ((nd (mB p hp).2.1).filter _) (fun x hx => by simpa using (List.mem_filter.1 hx).2)).1)
  have p3 := applyL_phase f2 f3 (fun p => declE p.label p.a.decls p.b.decls) ps [] (by simpa using asc_map (f := f2) (fun _ => rfl) P.asc) (fun p hp => by
    refine ⟨?_, fun e he => (e5 p hp e he).2⟩
    have := decl_all p.label (addAll p.a.uses (p.b.uses.filter fun u => !p.a.uses.contains u)) p.a.decls p.b.decls [] (by simpa using (mA p hp).2.2.2) (by simpa using (mB p hp).2.2.2)
    simp only [List.nil_append] at this
    exact this)
  have p4 := applyL_phase f3 f4 (fun p => useE 4 p.label p.a.uses p.b.uses) ps [] (by simpa using asc_map (f := f3) (fun _ => rfl) P.asc) (fun p hp => by
    refine ⟨?_, fun e he => (e4 p hp e he).2⟩
    obtain ⟨-, q2, q3⟩ := add_all p.label p.b.decls _ p.a.uses (mA p hp).2.1 ((nd (mB p hp).2.1).filter (fun u => !p.a.uses.contains u)) (fun x hx => by simpa using (List.mem_filter.1 hx).2)
    obtain ⟨r1, r2, r3⟩ := del_all p.label p.b.decls (p.a.uses.filter fun u => !p.b.uses.contains u) _ q2 ((nd (mA p hp).2.1).filter _) (fun x hx => (q3 x).2 (.inl (List.mem_filter.1 hx |>.1)))
    have e0 : delAll (addAll p.a.uses (p.b.uses.filter fun u => !p.a.uses.contains u)) (p.a.uses.filter fun u => !p.b.uses.contains u) = p.b.uses := by
      refine asc_ext r2 (mB p hp).2.1 (fun x => ?_)
      rw [r3, q3]
      simp only [List.mem_filter, Bool.not_eq_true', List.contains_eq_mem, decide_eq_false_iff_not, not_and, Classical.not_not]
      constructor
      · rintro ⟨h1 | h1, h2⟩
        · exact h2 h1
        · exact h1.1
      · intro h
        refine ⟨?_, fun _ => h⟩
        by_cases hx : x ∈ p.a.uses
        · exact .inl hx
        · exact .inr ⟨h, hx⟩
    rw [e0] at r1
    exact r1)
  have p5 := rems_ok ps [] (by simpa using asc_map (f := f4) (fun _ => rfl) P.asc) (fun p hp hi => (P.lb p hp hi).1) P.zb
  simp only [List.nil_append] at p1 p2 p3 p4 p5
  rw [← P.fa] at p1
  rw [← P.fb] at p5
  unfold diffP
  rw [hps]
  constructor
  · rw [applyL_append, p1, Option.bind_some, applyL_append, p2, Option.bind_some, applyL_append, p3, Option.bind_some, applyL_append, p4, Option.bind_some, p5]
  · intro e he
    simp only [List.mem_append, List.mem_flatMap] at he
    rcases he with ⟨p, hp, he⟩ | ⟨p, hp, he⟩ | ⟨p, hp, he⟩ | ⟨p, hp, he⟩ | ⟨p, hp, he⟩
    · unfold addE at he
      split at he
      · cases he
      · obtain rfl := List.mem_singleton.1 he
        exact ⟨by show (1 : Int) ≤ 1; decide, by show (1 : Int) ≤ 9; decide, fits_of rfl rfl (.inl rfl) (.inl (by show (1 : Int) < 7; decide)), fun m hm => by
          obtain rfl : m = ⟨p.label, [], []⟩ := by simpa [tests] using hm
          exact Oks.none (hl p hp)⟩
    · exact (e3 p hp e he).1
    · exact (e5 p hp e he).1
    · exact (e4 p hp e he).1
    · unfold remE at he
      split at he
      · cases he
      · obtain rfl := List.mem_singleton.1 he
        exact ⟨by show (1 : Int) ≤ 2; decide, by show (2 : Int) ≤ 9; decide, fits_of rfl rfl (.inl rfl) (.inl (by show (2 : Int) < 7; decide)), fun m hm => by
          obtain rfl : m = ⟨p.label, [], []⟩ := by simpa [tests] using hm
          exact Oks.none (hl p hp)⟩
theorem through_ok {O : Oks} {a b c : List PM} (ha : O.Mods a) (hb : O.Mods b) (hc : O.Mods c) : applyL a (diffP a b ++ diffP b c) = some c ∧ applyL c (inv (diffP a b ++ diffP b c)) = some a ∧ (∀ e ∈ diffP a b ++ diffP b c, O.Edit e) ∧ ∀ e ∈ inv (diffP a b ++ diffP b c), O.Edit e := by
  obtain ⟨h1, h2⟩ := diff_ok ha hb
  obtain ⟨h3, h4⟩ := diff_ok hb hc
  have h5 : applyL a (diffP a b ++ diffP b c) = some c := by rw [applyL_append, h1, Option.bind_some, h3]
  have h6 : ∀ e ∈ diffP a b ++ diffP b c, O.Edit e := by
    intro e he
    rcases List.mem_append.1 he with he | he
    · exact h2 e he
    · exact h4 e he
  refine ⟨h5, (applyL_inv _ _ _ h6 ha.st h5).2, h6, fun e he => ?_⟩
  unfold inv at he
  obtain ⟨x, hx, rfl⟩ := List.mem_map.1 (List.mem_reverse.1 he)
  exact (h6 x hx).inv
end Go.Proofs.YtiaenhlflgobfaaGreatDoor
namespace Go.Proofs.YtiaenhlflgobfaaGreatDoor
end Go.Proofs.YtiaenhlflgobfaaGreatDoor
