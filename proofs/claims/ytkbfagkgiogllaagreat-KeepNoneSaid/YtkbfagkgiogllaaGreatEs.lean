/-
  The program in which the functions of that arithmetic stand for their code, and those of a geometry for their answers. No conditions.
-/
import Derived.Test.YtkbfagkgiogllaaGreatSm
import Derived.Test.YtkbfagkgiogllaaGreatChecked
import Derived.KernelRfl
import Derived.Eval
set_option linter.unusedVariables false
set_option linter.unusedSimpArgs false
namespace Go.Ev.Sm
open Go.Proofs
set_option maxRecDepth 100000
def gg : AV := .agg [.int .i64 8, .int .i64 2, .int .i64 2, .int .i64 4, .int .i64 12]
def tWhere : List (List AV × AV) := [([gg, .int .i64 1], .int .i64 2), ([gg, .int .i64 2], .int .i64 14), ([gg, .int .i64 3], .int .i64 17), ([gg, .int .i64 4], .int .i64 21)]
def tGood : List (List AV × AV) := [([gg], .bool true)]
def tBytes : List (List AV × AV) := [([gg], .int .i64 126)]
def tPages : List (List AV × AV) := [([gg], .int .i64 3)]
noncomputable def ES : Env := withSum (withSum (withSum (withSum (withSum (withSum (envOf Tryz.prog) 219 (sumR fnvG)) 121 (sumO 5 1 putG)) 142 (sumR (memoG tWhere))) 143 (sumR (memoG tGood))) 240 (sumR (memoG tBytes))) 304 (sumR (memoG tPages))
theorem baseOk : EnvOk (envOf Tryz.prog) Tryz.prog := envOk_of (by kernel_rfl) (by kernel_rfl) (Checked.mixed Tryz.checked)
theorem esOk : EnvOk ES Tryz.prog := by
  refine withMemo_ok (n := 50) (withMemo_ok (n := 50) (withMemo_ok (n := 50) (withMemo_ok (n := 50) (put_env baseOk (fnv_env baseOk baseOk fun _ => rfl) fun _ => rfl) baseOk rfl ?_) baseOk rfl ?_) baseOk rfl ?_) baseOk rfl ?_
  · intro p hp
    simp only [tWhere, List.mem_cons, List.mem_nil_iff, or_false] at hp
    rcases hp with rfl | rfl | rfl | rfl
    · exact ⟨by kernel_rfl, by kernel_rfl⟩
    · exact ⟨by kernel_rfl, by kernel_rfl⟩
    · exact ⟨by kernel_rfl, by kernel_rfl⟩
    · exact ⟨by kernel_rfl, by kernel_rfl⟩
  · intro p hp
    simp only [tGood, List.mem_cons, List.mem_nil_iff, or_false] at hp
    subst hp
    exact ⟨by kernel_rfl, by kernel_rfl⟩
  · intro p hp
    simp only [tBytes, List.mem_cons, List.mem_nil_iff, or_false] at hp
    subst hp
    exact ⟨by kernel_rfl, by kernel_rfl⟩
  · intro p hp
    simp only [tPages, List.mem_cons, List.mem_nil_iff, or_false] at hp
    subst hp
    exact ⟨by kernel_rfl, by kernel_rfl⟩
end Go.Ev.Sm
