/- Closed facts on the program's types and functions. No condition. -/
import Derived.Test.YtgggcnadlnlmpaaAPure
import Derived.Test.YtgggcnadlnlmpaaProg
namespace Go.Proofs.Ytgggcnadlnlmpaa
open Go Go.RowKit Go.Proofs.Kit Go.Proofs.Pure
set_option linter.unusedVariables false
set_option linter.unusedSimpArgs false
set_option maxRecDepth 100000

theorem mx : Try.prog.follows .mixedOrders = true := by kernel_rfl
theorem sz22 : (Try.prog.info? 22).map (·.size) = some 1 := by kernel_rfl
theorem tk22 : TK Try.prog 22 (kint .u32) := ⟨by kernel_rfl, by kernel_rfl⟩
theorem pl30 : (match Try.prog.underlying 30 with | some (.struct fs) => fs.toList.mapM (fun f => (Try.prog.info? f.type).map fun i => (f.offset, i.size)) | _ => none) = some [(0, 1), (1, 1), (2, 1)] := by kernel_rfl
theorem zz30 : ((Try.prog.info? 30).bind (·.zero)) = some (mkv true ([.int .i64 0] ++ ([.int .u32 0] ++ ([.int .u32 0] ++ [])))) := by kernel_rfl
theorem sz30 : (Try.prog.info? 30).map (·.size) = some 3 := by kernel_rfl
theorem ap30 : ApOk Try.prog 30 k_api_Span ([.int .i64 0] ++ ([.int .u32 0] ++ ([.int .u32 0] ++ []))) := ⟨by kernel_rfl, by kernel_rfl, by kernel_rfl⟩
theorem zz24 : ((Try.prog.info? 24).bind (·.zero)) = some (mkv true (List.replicate 8 [.int .u32 0]).flatten) := by kernel_rfl
theorem sz24 : (Try.prog.info? 24).map (·.size) = some 8 := by kernel_rfl
theorem tk24 : TK Try.prog 24 (karr 8 (kint .u32)) := ⟨by kernel_rfl, by kernel_rfl⟩
theorem hb10 : hasBody Try.prog 10 := ⟨_, Try.func10, by kernel_rfl, by kernel_rfl⟩
theorem eq22 : EqK Try.prog 22 (kint .u32) 1 := eq_int Try.underlying22
theorem eq24 : EqK Try.prog 24 (karr 8 (kint .u32)) 2 := eq_arr Try.underlying24 tk22 eq22
theorem hb15 : hasBody Try.prog 15 := ⟨_, Try.func15, by kernel_rfl, by kernel_rfl⟩
theorem hb6 : hasBody Try.prog 6 := ⟨_, Try.func6, by kernel_rfl, by kernel_rfl⟩
theorem hb8 : hasBody Try.prog 8 := ⟨_, Try.func8, by kernel_rfl, by kernel_rfl⟩
theorem tk30 : TK Try.prog 30 k_api_Span := ⟨by kernel_rfl, by kernel_rfl⟩
theorem tk3 : TK Try.prog 3 (kint .i64) := ⟨by kernel_rfl, by kernel_rfl⟩
theorem eq3 : EqK Try.prog 3 (kint .i64) 1 := eq_int Try.underlying3
theorem eq30 : EqK Try.prog 30 k_api_Span 2 := eq_struct Try.underlying30 (by kernel_rfl) rfl t_api_Span_inj (eqfs_cons (by decide) rfl tk3 (eq_up eq3 (by decide)) (eqfs_cons (by decide) rfl tk22 (eq_up eq22 (by decide)) (eqfs_cons (by decide) rfl tk22 (eq_up eq22 (by decide)) eqfs_nil)))
theorem hb12 : hasBody Try.prog 12 := ⟨_, Try.func12, by kernel_rfl, by kernel_rfl⟩
theorem hb16 : hasBody Try.prog 16 := ⟨_, Try.func16, by kernel_rfl, by kernel_rfl⟩
theorem hb5 : hasBody Try.prog 5 := ⟨_, Try.func5, by kernel_rfl, by kernel_rfl⟩
theorem hb7 : hasBody Try.prog 7 := ⟨_, Try.func7, by kernel_rfl, by kernel_rfl⟩
theorem hb9 : hasBody Try.prog 9 := ⟨_, Try.func9, by kernel_rfl, by kernel_rfl⟩
theorem hb11 : hasBody Try.prog 11 := ⟨_, Try.func11, by kernel_rfl, by kernel_rfl⟩
theorem hb13 : hasBody Try.prog 13 := ⟨_, Try.func13, by kernel_rfl, by kernel_rfl⟩
theorem hb14 : hasBody Try.prog 14 := ⟨_, Try.func14, by kernel_rfl, by kernel_rfl⟩

end Go.Proofs.Ytgggcnadlnlmpaa
