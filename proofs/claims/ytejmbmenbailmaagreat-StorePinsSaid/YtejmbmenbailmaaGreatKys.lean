/- Keys of two cells, a string and a number: told apart, and as keys of maps. -/
import Derived.Test.YtejmbmenbailmaaGreatB3
namespace Go.Xs
open Enc (enc)
open Key (kv)
structure Ky where
 n : List UInt8
 t : Int
theorem Ky.ext' {a b : Ky} (h1 : a.n = b.n) (h2 : a.t = b.t) : a = b := by cases a; cases b; simp_all
instance : DecidableEq Ky := fun a b =>
 if h : a.n = b.n ∧ a.t = b.t then isTrue (Ky.ext' h.1 h.2) else isFalse fun e => h ⟨congrArg (·.n) e, congrArg (·.t) e⟩
abbrev Wn (k : Ky) : Array Value := #[.string ⟨k.n.toArray⟩, .int .i64 k.t]
instance : Enc Ky := ⟨fun k => [.string ⟨k.n.toArray⟩, .int .i64 k.t], 2, fun _ => rfl, fun _ => rfl⟩
theorem str_inj {a b : List UInt8} : (⟨a.toArray⟩ : ByteArray) = ⟨b.toArray⟩ ↔ a = b :=
 ⟨fun e => by have := congrArg (fun x : ByteArray => x.data.toList) e; simpa using this, fun e => by rw [e]⟩
theorem Ky.iff {a b : Ky} : a = b ↔ a.n = b.n ∧ a.t = b.t := ⟨fun e => by rw [e]; exact ⟨rfl, rfl⟩, fun h => Ky.ext' h.1 h.2⟩
theorem qo (a b : Ky) : Kw (Wn a) (Wn b) [(0, 1), (1, 0)] = some (decide (a = b)) := by
 simp only [Kw];simp only [List.getElem?_toArray, List.getElem?_cons_zero, List.getElem?_cons_succ, iw];simp [str_inj, Ky.iff]
theorem l8 {E : Env} {x y : Operand} {a b : Ky} (h1 : ev E x = .agg (Wn a)) (h2 : ev E y = .agg (Wn b)) : zl (ev E) (.eqs false [(0, 1), (1, 0)] x y) = some (.bool (decide (a = b))) := by
 simp only [zl, h1, h2, qo]
/-- a type of such keys -/
def nI (P : Program) (t : TypeId) : Bool := !(P.stoodInHeld t) && match P.underlying t with
 | some (.struct ⟨[f, g]⟩) => decide (f.name ≠ "_") && decide (g.name ≠ "_") && decide (f.offset = 0) && decide (g.offset = 1) && (match P.underlying f.type with | some .string => true | _ => false) && (match P.underlying g.type with | some (.int .i64) => true | _ => false)
 | _ => false
theorem kZ {P : Program} {t : TypeId} (h : nI P t = true) : P.stoodInHeld t = false ∧ ∃ f g : Field, P.underlying t = some (.struct #[f, g]) ∧ f.name ≠ "_" ∧ g.name ≠ "_" ∧ f.offset = 0 ∧ g.offset = 1 ∧ P.underlying f.type = some .string ∧ P.underlying g.type = some (.int .i64) := by
 unfold nI at h;rw [Bool.and_eq_true] at h;obtain ⟨h1, h2⟩ := h;refine ⟨by simpa using h1, ?_⟩;split at h2
 ·rename_i f g hu
  simp only [Bool.and_eq_true, decide_eq_true_eq] at h2;obtain ⟨⟨⟨⟨⟨h3, h4⟩, h5⟩, h6⟩, h7⟩, h8⟩ := h2;refine ⟨f, g, hu, h3, h4, h5, h6, ?_, ?_⟩
  ·split at h7
   ·assumption
   ·cases h7
  ·split at h8
   ·assumption
   ·cases h8
 ·cases h2
theorem fE {P : Program} {t : TypeId} (h : nI P t = true) (w : World) (a b : Ky) : (Op.equal t (.agg (Wn a)) (.agg (Wn b))).run P w = .ok (decide (a = b)) w := by
 obtain ⟨h1, f, g, hu, hf, hg, hf0, hg1, hfs, hgi⟩ := kZ h;have hfo : P.fieldsOf t = #[f, g] := by simp [Program.fieldsOf, hu]
 have hff : wL P #[f, g].toList = some [(0, 1), (1, 0)] := by simp [wL, hf, hg, hf0, hg1, hfs, hgi]
 unfold Op.equal;rw [WT, run_equalIn_struct w 9999 t (Wn a) (Wn b) (by rw [hfo]; exact hu) h1, hfo];exact K9 9998 _ _ _ _ _ hff (qo a b) w
theorem fU {P : Program} {t : TypeId} (h : nI P t = true) (w : World) (a : Ky) (e : Bool) : (Instr.checkKey e 10000 t (.agg (Wn a))).run P w = .ok () w := by
 obtain ⟨h1, f, g, hu, hf, hg, hf0, hg1, hfs, hgi⟩ := kZ h;have e1 : (part f.type (Wn a) 0).run P w = .ok (.string ⟨a.n.toArray⟩) w := uT (uG hfs (by simp)) (by rfl) w;have e2 : (part g.type (Wn a) 1).run P w = .ok (.int .i64 a.t) w := uT (uG hgi (by simp)) (by rfl) w;have e3 : (Instr.checkKey e 9999 f.type (.string ⟨a.n.toArray⟩)).run P w = .ok () w := Go.MapKept.run_checkKey (d := .string) (k := .string ⟨a.n.toArray⟩) hfs trivial e 9998;have e4 : (Instr.checkKey e 9999 g.type (.int .i64 a.t)).run P w = .ok () w := Go.MapKept.run_checkKey (d := .int .i64) hgi (by rfl) e 9998;show (Instr.checkKey e (9999 + 1) t (.agg (Wn a))).run P w = _;unfold Instr.checkKey;simp only [Sem.run_bind, run_underlying hu, Result.andThen_ok];rw [← Array.forIn_toList];simp only [List.forIn_cons, List.forIn_nil, Sem.run_bind, hf, hg, hf0, hg1, ne_eq, not_false_eq_true, if_true, e1, e2, e3, e4, Result.andThen_ok, pure, Sem.run]
theorem Qf {P : Program} {t : TypeId} (h : nI P t = true) (w : World) (a : Ky) : ∀ (l : List MapEntry) (i : Nat), (∀ x ∈ l, ∃ b : Ky, x.key = .agg (Wn b)) →
 (Instr.findAsking t (.agg (Wn a)) l i).run P w = .ok none w ∧ (∀ x ∈ l, x.key ≠ .agg (Wn a)) ∨ ∃ j e, (Instr.findAsking t (.agg (Wn a)) l i).run P w = .ok (some (i + j, e.val)) w ∧ l[j]? = some e ∧ e.key = .agg (Wn a)
 | [], i, _ => .inl ⟨by simp [Instr.findAsking, pure], by simp⟩
 | e :: l, i, hl => by
  obtain ⟨b, hb⟩ := hl e (by simp);have he := fE h w a b;by_cases hab : a = b
  ·rw [decide_eq_true hab] at he;refine .inr ⟨0, e, ?_, rfl, by rw [hb, hab]⟩;simp only [Instr.findAsking, hb, Sem.run_bind, he, Result.andThen_ok, if_true, Nat.add_zero, pure, Sem.run]
  ·rw [decide_eq_false hab] at he;have hne : e.key ≠ .agg (Wn a) := fun q => hab (by
    rw [hb] at q;simp only [Value.agg.injEq] at q;have h1 := congrArg (fun x : Array Value => x[0]?) q;have h2 := congrArg (fun x : Array Value => x[1]?) q;simp at h1 h2;exact Ky.ext' h1.symm h2.symm)
   rcases Qf h w a l (i + 1) fun x hx => hl x (List.mem_cons_of_mem _ hx) with ⟨h1, h2⟩ | ⟨j, e', h1, h2, h3⟩
   ·refine .inl ⟨?_, fun x hx => ?_⟩
    ·simp only [Instr.findAsking, hb, Sem.run_bind, he, Result.andThen_ok, Bool.false_eq_true, if_false, h1]
    ·rcases List.mem_cons.1 hx with rfl | hx
     ·exact hne
     ·exact h2 x hx
   ·refine .inr ⟨j + 1, e', ?_, h2, h3⟩;simp only [Instr.findAsking, hb, Sem.run_bind, he, Result.andThen_ok, Bool.false_eq_true, if_false, h1, Nat.add_assoc, Nat.add_comm 1 j]
theorem JE {P : Program} {t : TypeId} (h : nI P t = true) (w : World) (x : Value) (es : List MapEntry) : (Instr.findKey t x es).run P w = (Instr.findAsking t x es).run P w := by
 obtain ⟨h1, f, g, hu, _⟩ := kZ h;cases es with
 | nil => simp [Instr.findKey, run_underlying hu, Instr.findNow, Instr.findAsking]
 | cons e es => simp [Instr.findKey, run_underlying hu, Instr.findNow, Instr.sameNow]
instance : Key Ky where
 kv a := .agg (Wn a)
 ok P t := nI P t = true
 inj a b q := by
  simp only [Value.agg.injEq] at q;have h1 := congrArg (fun x : Array Value => x[0]?) q;have h2 := congrArg (fun x : Array Value => x[1]?) q;simp at h1 h2;exact Ky.ext' h1 h2
 bits a := by simp [Instr.sameBits, Go.MapKept.bytes_beq]
 chk h w a e := fU h w a e
 find h w a l hl := by
  rw [JE h w];have := Qf h w a l 0 hl;simpa only [Nat.zero_add] using this
end Go.Xs