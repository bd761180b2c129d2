/- From a contract to a law's statement: the world at the call, whole, is what the contract leaves alone. -/
import Derived.Test.YtkdbajfaaifkaaaScal
import Derived.ChangeSame
import Derived.RowKit3
namespace Go.Xs
open Go.ChangeShapes

/-- the world's heap, each object by itself -/
def heapS (w : World) : Segs := w.heap.toList.zipIdx.map fun x => [(x.2, x.1)]
theorem heapS_flatten (w : World) : (heapS w).flatten = w.heap.toList.zipIdx.map fun x => (x.2, x.1) := by
  unfold heapS
  generalize w.heap.toList.zipIdx = l
  induction l with
  | nil => rfl
  | cons x l ih => simp only [List.map_cons, List.flatten_cons, ih]; rfl
theorem heapS_mem {w : World} {i : Nat} {o : Obj} (h : w.heap[i]? = some o) : [(i, o)] ∈ heapS w := by
  refine List.mem_map.2 ⟨(o, i), ?_, rfl⟩
  rw [List.mem_zipIdx_iff_getElem?]
  simpa using h
theorem heapS_sat (w : World) : Sat (heapS w) w := by
  show SatL _ w
  rw [heapS_flatten]
  refine ⟨?_, fun x hx => ?_⟩
  · rw [List.map_map]
    have : (fun x : Obj × Nat => (x.2, x.1).1) = Prod.snd := rfl
    show (List.map (fun x : Obj × Nat => x.2) w.heap.toList.zipIdx).Nodup
    rw [show (fun x : Obj × Nat => x.2) = Prod.snd from rfl, List.zipIdx_map_snd]
    exact List.nodup_range'
  · obtain ⟨y, hy, rfl⟩ := List.mem_map.1 hx
    rw [List.mem_zipIdx_iff_getElem?] at hy
    simpa using hy

/-- what a call leaves of the world that it found -/
structure Stays (W W' : World) : Prop where
  ext : Ext W W'
  same : ∀ i, i < W.heap.size → W'.heap[i]? = W.heap[i]?

theorem Tri.whole {P : Program} {f : FuncId} {args : Array Value} {W : World} {v : Value} (h : Tri P f args (heapS W) (fun r S => r = v ∧ S = heapS W)) :
    Calls P f args W (fun e W' => e = .returned v ∧ Stays W W') := by
  refine (h.run [] W (by rw [List.append_nil]; exact heapS_sat W)).mono ?_
  rintro e W' ⟨hx, _, _, rfl, hs, rfl, rfl⟩
  refine ⟨rfl, hx, fun i hi => ?_⟩
  rw [List.append_nil] at hs
  have hm := heapS_mem (w := W) (i := i) (o := W.heap[i]) (by simp [hi])
  rw [hs.at_ hm (x := (i, W.heap[i])) (by simp)]
  simp [hi]
theorem Tri.alone {P : Program} {f : FuncId} {args : Array Value} {v : Value} (h : Tri P f args [] (fun r S => r = v ∧ S = [])) (W : World) :
    Calls P f args W (fun e W' => e = .returned v ∧ Stays W W') :=
  Tri.whole (((h.frame (heapS W)).perm (S₂ := heapS W) (by simp)).mono fun r S ⟨S', e, hr, hS⟩ => ⟨hr, by rw [e, hS]; rfl⟩)

theorem Stays.frozen {W W' : World} (h : Stays W W') (b off : Nat) (hb : b < W.heap.size) : W'.frozen? ⟨b, off, none⟩ = W.frozen? ⟨b, off, none⟩ := by
  simp only [World.frozen?, h.same b hb]
theorem Stays.kept {W W' : World} (h : Stays W W') (may : MemPlace → Prop) : W.keptBut W' may := by
  refine ⟨h.ext.os, h.ext.output, fun i hi => ?_⟩
  rw [h.same i hi]
  split
  · rename_i h1 h2
    rw [h1] at h2
    cases h2
    exact ⟨rfl, rfl, rfl, fun _ _ => rfl⟩
  · rename_i h1 h2
    rw [h1] at h2
    cases h2
    exact .inr ⟨rfl, rfl⟩
  · rfl

/-- the answer of a law: what it found reads as it read -/
theorem Stays.post {H : Type} {enc : TypeId × Value → H} {P : Program} {f : Func} {s : ChangeSpec} {apart fresh handsOn again : Bool} {W W' : World} {args : Array Value} {v : Value} {ds gs : List (DataW H)} {before pa pv : List MemPlace} (hl : Stays W W')
    (hW : DataW.Whole enc P f.params.toList s.vars apart W args.toList ds gs before)
    (hres : ∀ (b : Nat) (sp : Nat → Bool) (hd : Bool), DataW.TrodAll enc P W' b sp hd f.resultTypes.toList (v.resultList f.resultTypes.size) (s.fn H (ds ++ gs)).results [])
    (hargs : ∀ sp : Nat → Bool, (∀ p ∈ before, sp p.block = true) → DataW.TrodAll enc P W' 0 sp true f.params.toList args.toList (s.fn H (ds ++ gs)).args pa)
    (hvars : ∀ sp : Nat → Bool, (∀ p ∈ before, sp p.block = true) → DataW.TrodVars enc P W' sp s.vars (s.fn H (ds ++ gs)).vars pv)
    (hps : before = pa ++ pv)
    (hok : ∀ (j : Nat) (t : TypeId) (r : Value), f.resultTypes[j]? = some t → (v.resultList f.resultTypes.size)[j]? = some r → Value.okWide P W' .any 0 t r) :
    s.post enc P f apart fresh handsOn again W args v W' := by
  have hin : ∀ p ∈ before, decide (p.block < W.heap.size) = true := fun p hp => decide_eq_true (hW.lt p hp)
  have hsub : ∀ p, p ∈ before → p ∈ [] ∨ p ∈ pa ∨ p ∈ pv := fun p hp => .inr (List.mem_append.1 (hps ▸ hp))
  obtain ⟨_, _, _, _, _, hz, hn⟩ := id hW
  refine ⟨ds, gs, before, [], pa, pv, hW, hres _ _ _, hargs (fun b => decide (b < W.heap.size)) hin, hvars (fun b => decide (b < W.heap.size)) hin, hl.kept _, fun _ => ⟨hok, _, _, ([] ++ pa) ++ pv, ⟨[] ++ pa, pv, trodAll_append (hargs (fun _ => true) (fun _ _ => rfl)) (hres _ _ _), hvars (fun _ => true) (fun _ _ => rfl), rfl, ?_, ?_⟩, ?_⟩⟩
  · intro b off hp
    have hb : MemPlace.cell b off ∈ before := by rw [hps]; exact hp
    rw [hl.frozen b off (hW.lt _ hb)]
    exact hz b off hb
  · intro ha
    have := hn ha
    rwa [hps] at this
  · intro p hp _
    rwa [hps]
end Go.Xs
