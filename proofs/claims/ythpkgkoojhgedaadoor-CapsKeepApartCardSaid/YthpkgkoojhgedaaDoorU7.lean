/- A step of code, for tactics that ask what stands ahead. -/
import Derived.Test.YthpkgkoojhgedaaDoorU6
namespace Go.Proofs.YthpkgkoojhgedaaDoor.V
set_option linter.unusedVariables false
set_option linter.unusedSimpArgs false
set_option linter.unusedSectionVars false
set_option linter.unusedSectionVars false
open Go

theorem code_id {P : Program} {rd : Option Nat} {a : IC} {kn : Kont} {ke : Nat → Kont} {kr : Kont} {ρ : Env} {β : Bx} {h : Hp} (hk : codeK P rd a kn ke kr ρ β h) : codeK P rd a kn ke kr ρ β h := hk

theorem block_step {P : Program} {rd : Option Nat} {a : IC} {id : Nat} {kn : Kont} {ke : Nat → Kont} {kr : Kont} {ρ : Env} {β : Bx} {h : Hp} (hk : codeK P rd a kn (fun i => if i = id then kn else ke i) kr ρ β h) : codeK P rd (.block id a) kn ke kr ρ β h := hk

theorem cond_t {P : Program} {rd : Option Nat} {a b : IC} {x : X} {kn : Kont} {ke : Nat → Kont} {kr : Kont} {ρ : Env} {β : Bx} {h : Hp} (hx : ox ρ x = some (.v (.bool true))) (hk : codeK P rd a kn ke kr ρ β h) : codeK P rd (.cond x a b) kn ke kr ρ β h := by
  show condK (ox ρ x) _ _
  rw [hx]; exact hk

theorem cond_f {P : Program} {rd : Option Nat} {a b : IC} {x : X} {kn : Kont} {ke : Nat → Kont} {kr : Kont} {ρ : Env} {β : Bx} {h : Hp} (hx : ox ρ x = some (.v (.bool false))) (hk : codeK P rd b kn ke kr ρ β h) : codeK P rd (.cond x a b) kn ke kr ρ β h := by
  show condK (ox ρ x) _ _
  rw [hx]; exact hk

/-- A list of ints of our own. -/
def IntsP (s : Value) (l : List Int) : As := WnP 1 s l.length (l.map iv)

theorem IntsP.sub {s : Value} {l : List Int} {h h' : Hp} (ho : IntsP s l h) (hs : SubH h h') : IntsP s l h' := WnP.sub ho hs

/-- One int more. -/
theorem app1 {h : Hp} {L : List As} {b1 : Nat} {x : Int} {s : Value} {l : List Int} {ty ty1 : TypeId} {K : Ent → Hp → Prop} (hh : Has (Pt b1 (.cells #[iv x] ty1 (0, 0)) :: IntsP s l :: L) h) (hb : l.length < 1099511627776)
    (hK : ∀ s' h', Has (IntsP s' (l ++ [x]) :: L) h' → K (.v s') h') : appK [.int .i64 0] ty 8 h (.v s) (.v (.slice (some ⟨b1, 0, none⟩) 1 1)) K := by
  have hv : Vw 1 h (.slice (some ⟨b1, 0, none⟩) 1 1) 1 [iv x] := (pt_wn (e := 1) (n := 1) (cap := 1) (cs := [iv x]) rfl (Nat.le_refl _) rfl (hh.pt 0 rfl)).vw
  refine app_hasW (z := [.int .i64 0]) hh 1 rfl hv rfl (by omega) fun s' h' hh' => hK s' h' ?_
  have h2 := hh'.tail
  show Has (WnP 1 s' (l ++ [x]).length ((l ++ [x]).map iv) :: L) h'
  rw [List.length_append, List.map_append]
  exact h2

end Go.Proofs.YthpkgkoojhgedaaDoor.V
