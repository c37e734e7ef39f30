/- The fixed results of the documentation's examples of layer 3, computed. -/
import Derived.Test.YtjiokdkgbnakhaaDoorResD
import Derived.Test.YtjiokdkgbnakhaaDoorKx6
import Derived.Test.YtjiokdkgbnakhaaDoorKx8
set_option linter.unusedVariables false
set_option linter.unusedSimpArgs false
namespace Go.Proofs.YtjiokdkgbnakhaaDoor.Own
open Go.RowKit Go.Proofs.YtjiokdkgbnakhaaDoor Go.Proofs.YtjiokdkgbnakhaaDoorW.PrintWords Go.Proofs.YtjiokdkgbnakhaaDoorW.PrintLast Go.Proofs.YtjiokdkgbnakhaaDoorW.PrintMore

def nmA : ByteArray := ⟨#[97, 46, 111]⟩
def nmL : ByteArray := ⟨#[97, 45, 118, 101, 114, 121, 45, 108, 111, 110, 103, 45, 110, 97, 109, 101, 46, 111]⟩
def tabL : List Int := [97, 45, 118, 101, 114, 121, 45, 108, 111, 110, 103, 45, 110, 97, 109, 101, 46, 111, 47, 10]
theorem ev_build : K.longname_Build.f 3 [nmA, nmL] = some (tabL, [⟨#[97, 46, 111, 47]⟩, ⟨#[47, 48]⟩], 0) := by decide +kernel
theorem ev_res0 : longname_Resolve.f ⟨#[47, 48]⟩ tabL = some (nmL, 0) := by decide +kernel
theorem ev_resA : longname_Resolve.f ⟨#[97, 46, 111, 47]⟩ tabL = some (nmA, 0) := by decide +kernel
theorem ev_res1 : longname_Resolve.f ⟨#[47, 49]⟩ tabL = some (⟨#[]⟩, 6) := by decide +kernel
theorem ev_ent : longname_Entries.f tabL = some ([nmL], 0) := by decide +kernel
theorem ev_entx : longname_Entries.f [120] = some ([], 7) := by decide +kernel
theorem ev_txt1 : K.arlinkref03_Texts.f 5 [⟨#[97, 46, 111, 47]⟩, ⟨#[47, 48]⟩] [⟨#[97, 46, 111, 47]⟩, ⟨#[47, 48]⟩] = some true := by decide +kernel
theorem ev_txt2 : K.arlinkref03_Texts.f 5 [nmL] [nmL] = some true := by decide +kernel
theorem ev_v1 : validB ⟨#[120]⟩ = true := by decide +kernel
theorem ev_v2 : validB ⟨#[]⟩ = false := by decide +kernel
theorem ev_s1 : shortB nmA = true := by decide +kernel
theorem ev_s2 : shortB ⟨#[97, 32]⟩ = false := by decide +kernel

end Go.Proofs.YtjiokdkgbnakhaaDoor.Own
