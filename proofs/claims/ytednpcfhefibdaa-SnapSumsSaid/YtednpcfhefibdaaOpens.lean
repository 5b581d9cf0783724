import Derived.Test.YtednpcfhefibdaaWWords
import Derived.ChangeArms
import Derived.SizedLaws
import Derived.OpenShut
import Derived.Deep.Slices
namespace Go.Proofs.Ytednpcfhefibdaa.Opn
open Go.RowKit Go.Proofs.YtednpcfhefibdaaW.PrintWords
set_option linter.unusedVariables false
set_option linter.unusedSimpArgs false
def Opens {α : Type} (P : Program) (t : TypeId) (d : Kd α) (Ok : α → Prop) : Prop :=
 P.cellsOf t = d.sz ∧ ∀ (H : Type) (enc : TypeId × Value → H) (w : World) (base : Nat) (spare : Nat → Bool) (held : Bool) (fuel : Nat) (cs : List Value) (x : DataW H × List MemPlace),
  DataW.trod enc P w base spare held fuel t cs = some x → (∀ n ∈ x.1.weights P t, n ≤ reachBytes) → ∃ a : α, d.K w a cs ∧ Ok a
theorem opens_int {P : Program} {t : TypeId} {k : IntKind} (ht : P.underlying t = some (.int k)) (hc : P.cellsOf t = 1) : Opens P t (Kd.int k) (fun a => (Lit.int k a).wf = true) :=
 ⟨hc, fun H enc w base spare held fuel cs x h _ => by
  obtain ⟨n, rfl, _, hw⟩ := DataW.trod_int ht h
  exact ⟨n, rfl, hw⟩⟩
theorem opens_bool {P : Program} {t : TypeId} (ht : P.underlying t = some .bool) (hc : P.cellsOf t = 1) : Opens P t Kd.bool (fun _ => True) :=
 ⟨hc, fun H enc w base spare held fuel cs x h _ => by
  obtain ⟨n, rfl, _⟩ := DataW.trod_bool ht h
  exact ⟨n, rfl, trivial⟩⟩
theorem opens_string {P : Program} {t : TypeId} (ht : P.underlying t = some .string) (hc : P.cellsOf t = 1) : Opens P t Kd.string (fun s => s.size ≤ 140737488351232) :=
 ⟨hc, fun H enc w base spare held fuel cs x h hz => by
  obtain ⟨s, rfl, rfl, _⟩ := DataW.trod_string ht h
  refine ⟨s, rfl, ?_⟩
  have := hz s.data.toList.length (by simp [DataW.weights])
  rw [Array.length_toList] at this
  exact this⟩
theorem weights_mem_all {H : Type} {P : Program} {e : TypeId} : ∀ {ds : List (DataW H)} {d : DataW H}, d ∈ ds → ∀ n ∈ d.weights P e, n ∈ DataW.weightsAll P e ds
 | d0 :: ds, d, hd, n, hn => by
  simp only [DataW.weightsAll, List.mem_append]
  rcases List.mem_cons.1 hd with rfl | hd
  ·exact .inl hn
  ·exact .inr (weights_mem_all hd n hn)
theorem opens_slice {α : Type} [Inhabited α] {P : Program} {t e : TypeId} {d : Kd α} {Ok : α → Prop} {B : Nat} (ht : P.underlying t = some (.slice e)) (hc : P.cellsOf t = 1) (he : Opens P e d Ok) (hB : P.bytesOf e = B) :
  Opens P t (Kd.slice e d) (fun l => l.length * B ≤ 140737488351232 ∧ ∀ a ∈ l, Ok a) :=
 ⟨hc, fun H enc w base spare held fuel cs x h hz => by
  rcases DataW.trod_slice ht h with ⟨rfl, rfl⟩ | ⟨a, len, cap, elems, rest, n, _, rfl, rfl, hb, hl, hm, hlen, hel, hsp, hns⟩
  ·exact ⟨[], ⟨none, 0, rfl, Nat.le_refl _, rfl, by simp, fun h => absurd h (Nat.lt_irrefl 0)⟩, by simp, by simp⟩
  ·have hw : ∀ m ∈ (elems.length + rest.length) * P.bytesOf e :: (DataW.weightsAll P e (elems.map (·.1)) ++ DataW.weightsAll P e (rest.map (·.1))), m ≤ reachBytes := by
    intro m hm'
    refine hz m ?_
    simp only [DataW.weights, ht, List.length_map]
    exact hm'
   have each : ∀ i, i < len → ∃ (q : α), Ok q ∧ ∃ c, w.cells? base (a.add (i * P.cellsOf e)) (P.cellsOf e) = some c ∧ d.K w q c := by
    intro i hi
    have h1 := hel i hi
    rw [List.getElem?_eq_getElem (by omega)] at h1
    obtain ⟨c, h2, h3⟩ := Option.bind_eq_some_iff.1 h1
    obtain ⟨q, hq, ho⟩ := he.2 H enc w base spare held n c _ h3 (fun m hm' => hw m (by
     refine List.mem_cons_of_mem _ (List.mem_append_left _ ?_)
     exact weights_mem_all (List.mem_map_of_mem (List.getElem_mem _)) m hm'))
    exact ⟨q, ho, c, h2, hq⟩
   obtain ⟨q, hq⟩ := Go.Deep.choose_lt each
   have hmax : len ≤ 9223372036854775807 := by
    simp only [maxLen] at hm
    omega
   refine ⟨(List.range len).map q, ⟨some a, cap, by simp, by simpa using hl, ?_⟩, ?_, ?_⟩
   ·refine ⟨rfl, by simpa using hmax, fun hp => ⟨a, rfl, fun j p hj => ?_⟩⟩
    obtain ⟨hj1, hj2⟩ := List.getElem?_eq_some_iff.1 hj
    simp at hj1 hj2
    subst hj2
    obtain ⟨_, c, h2, h3⟩ := hq j hj1
    obtain ⟨_, hcl, hcell⟩ := World.cells?_some h2
    refine ⟨c, by rw [hcl, he.1], h3, fun i u hu => ?_⟩
    have hi : i < P.cellsOf e := by
     have := (List.getElem?_eq_some_iff.1 hu).1
     omega
    have h4 := hcell i hi
    rw [Go.Deep.add_add, he.1] at h4
    rw [h4, hu]
   ·have h1 := hw _ (List.mem_cons_self ..)
    simp only [reachBytes] at h1
    rw [hB] at h1
    have h2 : len * B ≤ (elems.length + rest.length) * B := Nat.mul_le_mul_right _ (by omega)
    simp only [List.length_map, List.length_range]
    omega
   ·intro b hb'
    obtain ⟨j, hj, rfl⟩ := List.mem_map.1 hb'
    exact (hq j (by simpa using hj)).1⟩
def OpensF {β : Type} (P : Program) (fs : List Field) (off : Nat) (d : Kd β) (Ok : β → Prop) : Prop :=
 ∀ (H : Type) (enc : TypeId × Value → H) (w : World) (base : Nat) (spare : Nat → Bool) (held : Bool) (n : Nat) (cs : List Value) (xs : List (DataW H × List MemPlace)), cs.length = off + d.sz → xs.length = fs.length →
  (∀ (i : Nat) (f : Field), fs[i]? = some f → DataW.trod enc P w base spare held n f.type ((cs.drop f.offset).take (P.cellsOf f.type)) = xs[i]?) →
  (∀ m ∈ DataW.weightsEach P (fs.map (·.type)) (xs.map (·.1)), m ≤ reachBytes) → ∃ b : β, d.K w b (cs.drop off) ∧ Ok b
theorem opensF_last {α : Type} {P : Program} {f : Field} {off : Nat} {d : Kd α} {Ok : α → Prop} (hf : f.offset = off) (h : Opens P f.type d Ok) : OpensF P [f] off d Ok := by
 intro H enc w base spare held n cs xs hl hx ht hw
 match xs, hx with
 | [x], _ =>
  have h0 := ht 0 f rfl
  rw [hf, h.1, List.take_of_length_le (by rw [List.length_drop]; omega)] at h0
  exact h.2 H enc w base spare held n _ x h0 (fun m hm => hw m (by simpa [DataW.weightsEach] using hm))
theorem opensF_cons {α β : Type} {P : Program} {f : Field} {fs : List Field} {off : Nat} {d1 : Kd α} {d2 : Kd β} {Ok1 : α → Prop} {Ok2 : β → Prop} (hf : f.offset = off) (h1 : Opens P f.type d1 Ok1) (h2 : OpensF P fs (off + d1.sz) d2 Ok2) :
  OpensF P (f :: fs) off (Kd.pair d1 d2) (fun b => Ok1 b.1 ∧ Ok2 b.2) := by
 intro H enc w base spare held n cs xs hl hx ht hw
 match xs, hx with
 | x :: xs, hx =>
  have h0 := ht 0 f rfl
  rw [hf, h1.1] at h0
  obtain ⟨a, ha, oa⟩ := h1.2 H enc w base spare held n _ x h0 (fun m hm => hw m (by simp only [List.map_cons, DataW.weightsEach, List.mem_append]; exact .inl hm))
  obtain ⟨b, hb, ob⟩ := h2 H enc w base spare held n cs xs (by simp only [Kd.pair] at hl; omega) (by simpa using hx) (fun i g hg => by simpa using ht (i + 1) g (by simpa using hg))
   (fun m hm => hw m (by simp only [List.map_cons, DataW.weightsEach, List.mem_append]; exact .inr hm))
  refine ⟨(a, b), ⟨_, _, ?_, ha, hb⟩, oa, ob⟩
  rw [← List.drop_drop, List.take_append_drop]
theorem opens_struct {α β : Type} {P : Program} {t : TypeId} {fs : Array Field} {d : Kd β} {Ok : β → Prop} (ht : P.underlying t = some (.struct fs)) (hc : P.cellsOf t = d.sz) (h : OpensF P fs.toList 0 d Ok) (f : α → β) (g : β → α) (hg : ∀ b, f (g b) = b) :
  Opens P t (Kd.iso d f) (fun a => Ok (f a)) :=
 ⟨hc, fun H enc w base spare held fuel cs x hx hz => by
  obtain ⟨xs, n, rfl, rfl, hl, hxl, hf⟩ := DataW.trod_struct ht hx
  obtain ⟨b, hb, ob⟩ := h H enc w base spare held n cs xs (by rw [hl, hc]; omega) (by simpa using hxl) (fun i f' hf' => hf i f' (by simpa using hf')) (fun m hm => hz m (by simpa [DataW.weights, ht] using hm))
  refine ⟨g b, ?_, by show Ok (f (g b)); rw [hg]; exact ob⟩
  show d.K w (f (g b)) cs
  rw [hg]
  simpa using hb⟩
def arrFields (e : TypeId) (c n : Nat) : List Field := (List.range n).map fun i => ⟨ "", e, i * c, false, "", "", 0⟩
theorem each_all {H : Type} {P : Program} {e : TypeId} : ∀ {ts : List TypeId} {ds : List (DataW H)}, (∀ t ∈ ts, t = e) → ∀ m ∈ DataW.weightsEach P ts ds, m ∈ DataW.weightsAll P e ds
 | [], _, _, m, h => by simp [DataW.weightsEach] at h
 | _ :: _, [], _, m, h => by simp [DataW.weightsEach] at h
 | t :: ts, d :: ds, ht, m, h => by
  obtain rfl := ht t List.mem_cons_self
  simp only [DataW.weightsEach, DataW.weightsAll, List.mem_append] at h ⊢
  exact h.imp id (each_all (fun x hx => ht x (List.mem_cons_of_mem _ hx)) m)
theorem opens_array {α β : Type} {P : Program} {t e : TypeId} {n c : Nat} {d : Kd β} {Ok : β → Prop} (ht : P.underlying t = some (.array n e)) (he : P.cellsOf e = c) (hc : P.cellsOf t = d.sz) (h : OpensF P (arrFields e c n) 0 d Ok) (f : α → β) (g : β → α) (hg : ∀ b, f (g b) = b) :
  Opens P t (Kd.iso d f) (fun a => Ok (f a)) :=
 ⟨hc, fun H enc w base spare held fuel cs x hx hz => by
  obtain ⟨xs, m, rfl, rfl, hl, hxl, hf⟩ := DataW.trod_array ht hx
  have hlen : (arrFields e c n).length = n := by simp [arrFields]
  obtain ⟨b, hb, ob⟩ := h H enc w base spare held m cs xs (by rw [hl, hc]; omega) (by rw [hxl, hlen]) (fun i f' hf' => by
   have hi : i < n := by
    rw [← hlen]
    exact (List.getElem?_eq_some_iff.1 hf').1
   have e1 := hf i hi
   simp only [arrFields, List.getElem?_map, List.getElem?_range hi, Option.map_some, Option.some.injEq] at hf'
   subst hf'
   simp only
   rw [← he]
   exact e1) (fun m' hm => hz m' (by
    simp only [DataW.weights, ht]
    exact each_all (fun x hx => by
     simp only [arrFields, List.map_map, List.mem_map] at hx
     obtain ⟨_, _, rfl⟩ := hx
     rfl) m' hm))
  refine ⟨g b, ?_, by show Ok (f (g b)); rw [hg]; exact ob⟩
  show d.K w (f (g b)) cs
  rw [hg]
  simpa using hb⟩
theorem Opens.arg {α : Type} {H : Type} {enc : TypeId × Value → H} {P : Program} {w : World} {base : Nat} {spare : Nat → Bool} {held : Bool} {t : TypeId} {d : Kd α} {Ok : α → Prop} {v : Value} {dd : DataW H} {ps : List MemPlace} {ts : List TypeId} {ds : List (DataW H)} {j : Nat} (h : Opens P t d Ok)
  (hsz : (DataW.weightsEach P ts ds).all (· ≤ reachBytes) = true) (ht : ts[j]? = some t) (hd : ds[j]? = some dd) (hx : DataW.Trod enc P w base spare held t v dd ps) : ∃ a : α, d.K w a v.cells.toList ∧ Ok a := by
 obtain ⟨fuel, hf⟩ := hx
 exact h.2 H enc w base spare held fuel _ _ hf (fun n hn => by
  have := List.all_eq_true.1 hsz n (DataW.weights_mem_each ht hd n hn)
  simpa using this)
theorem arg_struct {P : Program} {W : World} {r : Reach} {base : Nat} {t : TypeId} {fs : Array Field} {v : Value} {cs : List Value} (ht : P.underlying t = some (.struct fs)) (h : Value.okWide P W r base t v) (hc : v.cells.toList = cs) : v = .agg cs.toArray := by
 simp only [Value.okWide, ht] at h
 obtain ⟨c, rfl, _⟩ := h
 have : c.toList = cs := hc
 subst this
 simp
theorem arg_array {P : Program} {W : World} {r : Reach} {base : Nat} {t e : TypeId} {n : Nat} {v : Value} {cs : List Value} (ht : P.underlying t = some (.array n e)) (h : Value.okWide P W r base t v) (hc : v.cells.toList = cs) : v = .agg cs.toArray := by
 simp only [Value.okWide, ht] at h
 obtain ⟨c, rfl, _⟩ := h
 have : c.toList = cs := hc
 subst this
 simp
end Go.Proofs.Ytednpcfhefibdaa.Opn
