import Derived.Test.YtaieafdiomknoaaDoorProg
import Derived.KernelRfl
import Derived.Test.YtaieafdiomknoaaDoorAbLibD
open Go Ab Go.Proofs
namespace L22
set_option autoImplicit false
set_option linter.unusedSimpArgs false
set_option linter.unusedVariables false

theorem hmix : Tryd.prog.follows .mixedOrders = true := by kernel_rfl
-- t 1 func()
theorem tsz1 : tsz Tryd.prog 1 = some 1 := by kernel_rfl
theorem tby1 : tby Tryd.prog 1 = some 8 := by kernel_rfl
theorem tz1 : tzero Tryd.prog 1 = some (.nilFunc) := by kernel_rfl
theorem agg1 : aggB Tryd.prog 1 = some false := by simp [aggB, Tryd.underlying1]
attribute [go_sem] Tryd.underlying1 tsz1 tby1 tz1 agg1
-- t 2 int64
theorem tsz2 : tsz Tryd.prog 2 = some 1 := by kernel_rfl
theorem tby2 : tby Tryd.prog 2 = some 8 := by kernel_rfl
theorem tz2 : tzero Tryd.prog 2 = some (.int .i64 0) := by kernel_rfl
theorem agg2 : aggB Tryd.prog 2 = some false := by simp [aggB, Tryd.underlying2]
attribute [go_sem] Tryd.underlying2 tsz2 tby2 tz2 agg2
-- t 3 int
theorem tsz3 : tsz Tryd.prog 3 = some 1 := by kernel_rfl
theorem tby3 : tby Tryd.prog 3 = some 8 := by kernel_rfl
theorem tz3 : tzero Tryd.prog 3 = some (.int .i64 0) := by kernel_rfl
theorem agg3 : aggB Tryd.prog 3 = some false := by simp [aggB, Tryd.underlying3]
attribute [go_sem] Tryd.underlying3 tsz3 tby3 tz3 agg3
-- t 4 bool
theorem tsz4 : tsz Tryd.prog 4 = some 1 := by kernel_rfl
theorem tby4 : tby Tryd.prog 4 = some 1 := by kernel_rfl
theorem tz4 : tzero Tryd.prog 4 = some (.bool false) := by kernel_rfl
theorem agg4 : aggB Tryd.prog 4 = some false := by simp [aggB, Tryd.underlying4]
attribute [go_sem] Tryd.underlying4 tsz4 tby4 tz4 agg4
-- t 5 uint8
theorem tsz5 : tsz Tryd.prog 5 = some 1 := by kernel_rfl
theorem tby5 : tby Tryd.prog 5 = some 1 := by kernel_rfl
theorem tz5 : tzero Tryd.prog 5 = some (.int .u8 0) := by kernel_rfl
theorem agg5 : aggB Tryd.prog 5 = some false := by simp [aggB, Tryd.underlying5]
attribute [go_sem] Tryd.underlying5 tsz5 tby5 tz5 agg5
-- t 9 string
theorem tsz9 : tsz Tryd.prog 9 = some 1 := by kernel_rfl
theorem tby9 : tby Tryd.prog 9 = some 16 := by kernel_rfl
theorem tz9 : tzero Tryd.prog 9 = some (.string ⟨#[]⟩) := by kernel_rfl
theorem agg9 : aggB Tryd.prog 9 = some false := by simp [aggB, Tryd.underlying9]
theorem nI9 : noInt Tryd.prog 9 = true := by simp [noInt, Tryd.underlying9]
attribute [go_sem] Tryd.underlying9 tsz9 tby9 tz9 agg9 nI9
-- t 20 interface ()
theorem tsz20 : tsz Tryd.prog 20 = some 1 := by kernel_rfl
theorem tby20 : tby Tryd.prog 20 = some 16 := by kernel_rfl
theorem tz20 : tzero Tryd.prog 20 = some (.nilIface) := by kernel_rfl
theorem agg20 : aggB Tryd.prog 20 = some false := by simp [aggB, Tryd.underlying20]
attribute [go_sem] Tryd.underlying20 tsz20 tby20 tz20 agg20
-- t 21 int32
theorem tsz21 : tsz Tryd.prog 21 = some 1 := by kernel_rfl
theorem tby21 : tby Tryd.prog 21 = some 4 := by kernel_rfl
theorem tz21 : tzero Tryd.prog 21 = some (.int .i32 0) := by kernel_rfl
theorem agg21 : aggB Tryd.prog 21 = some false := by simp [aggB, Tryd.underlying21]
attribute [go_sem] Tryd.underlying21 tsz21 tby21 tz21 agg21
-- t 22 []uint8
theorem tsz22 : tsz Tryd.prog 22 = some 1 := by kernel_rfl
theorem tby22 : tby Tryd.prog 22 = some 24 := by kernel_rfl
theorem tz22 : tzero Tryd.prog 22 = some (.slice none 0 0) := by kernel_rfl
theorem agg22 : aggB Tryd.prog 22 = some false := by simp [aggB, Tryd.underlying22]
theorem nI22 : noInt Tryd.prog 22 = true := by simp [noInt, Tryd.underlying22]
attribute [go_sem] Tryd.underlying22 tsz22 tby22 tz22 agg22 nI22
-- t 23 struct ( Kind int; Verb int; Option int; Data []uint8 )
theorem tsz23 : tsz Tryd.prog 23 = some 4 := by kernel_rfl
theorem tby23 : tby Tryd.prog 23 = some 48 := by kernel_rfl
theorem tz23 : tzero Tryd.prog 23 = some (.agg #[.int .i64 0, .int .i64 0, .int .i64 0, .slice none 0 0]) := by kernel_rfl
theorem agg23 : aggB Tryd.prog 23 = some true := by simp [aggB, Tryd.underlying23]
attribute [go_sem] Tryd.underlying23 tsz23 tby23 tz23 agg23
-- t 24 api.Tel = gangway/api.Tel
theorem tsz24 : tsz Tryd.prog 24 = some 4 := by kernel_rfl
theorem tby24 : tby Tryd.prog 24 = some 48 := by kernel_rfl
theorem tz24 : tzero Tryd.prog 24 = some (.agg #[.int .i64 0, .int .i64 0, .int .i64 0, .slice none 0 0]) := by kernel_rfl
theorem agg24 : aggB Tryd.prog 24 = some true := by simp [aggB, Tryd.underlying24]
attribute [go_sem] Tryd.underlying24 tsz24 tby24 tz24 agg24
-- t 25 func() bool
theorem tsz25 : tsz Tryd.prog 25 = some 1 := by kernel_rfl
theorem tby25 : tby Tryd.prog 25 = some 8 := by kernel_rfl
theorem tz25 : tzero Tryd.prog 25 = some (.nilFunc) := by kernel_rfl
theorem agg25 : aggB Tryd.prog 25 = some false := by simp [aggB, Tryd.underlying25]
attribute [go_sem] Tryd.underlying25 tsz25 tby25 tz25 agg25
-- t 26 api.Errno = gangway/api.Errno
theorem tsz26 : tsz Tryd.prog 26 = some 1 := by kernel_rfl
theorem tby26 : tby Tryd.prog 26 = some 8 := by kernel_rfl
theorem tz26 : tzero Tryd.prog 26 = some (.int .i64 0) := by kernel_rfl
theorem agg26 : aggB Tryd.prog 26 = some false := by simp [aggB, Tryd.underlying26]
attribute [go_sem] Tryd.underlying26 tsz26 tby26 tz26 agg26
-- t 28 func(api.Tel) ([]uint8, api.Errno)
theorem tsz28 : tsz Tryd.prog 28 = some 1 := by kernel_rfl
theorem tby28 : tby Tryd.prog 28 = some 8 := by kernel_rfl
theorem tz28 : tzero Tryd.prog 28 = some (.nilFunc) := by kernel_rfl
theorem agg28 : aggB Tryd.prog 28 = some false := by simp [aggB, Tryd.underlying28]
attribute [go_sem] Tryd.underlying28 tsz28 tby28 tz28 agg28
-- t 30 func(api.Tel) ([]uint8, int)
theorem tsz30 : tsz Tryd.prog 30 = some 1 := by kernel_rfl
theorem tby30 : tby Tryd.prog 30 = some 8 := by kernel_rfl
theorem tz30 : tzero Tryd.prog 30 = some (.nilFunc) := by kernel_rfl
theorem agg30 : aggB Tryd.prog 30 = some false := by simp [aggB, Tryd.underlying30]
attribute [go_sem] Tryd.underlying30 tsz30 tby30 tz30 agg30
-- t 31 *telopt.Reader
theorem tsz31 : tsz Tryd.prog 31 = some 1 := by kernel_rfl
theorem tby31 : tby Tryd.prog 31 = some 8 := by kernel_rfl
theorem tz31 : tzero Tryd.prog 31 = some (.pointer none) := by kernel_rfl
theorem agg31 : aggB Tryd.prog 31 = some false := by simp [aggB, Tryd.underlying31]
attribute [go_sem] Tryd.underlying31 tsz31 tby31 tz31 agg31
-- t 32 func() *telopt.Reader
theorem tsz32 : tsz Tryd.prog 32 = some 1 := by kernel_rfl
theorem tby32 : tby Tryd.prog 32 = some 8 := by kernel_rfl
theorem tz32 : tzero Tryd.prog 32 = some (.nilFunc) := by kernel_rfl
theorem agg32 : aggB Tryd.prog 32 = some false := by simp [aggB, Tryd.underlying32]
attribute [go_sem] Tryd.underlying32 tsz32 tby32 tz32 agg32
-- t 33 []api.Tel
theorem tsz33 : tsz Tryd.prog 33 = some 1 := by kernel_rfl
theorem tby33 : tby Tryd.prog 33 = some 24 := by kernel_rfl
theorem tz33 : tzero Tryd.prog 33 = some (.slice none 0 0) := by kernel_rfl
theorem agg33 : aggB Tryd.prog 33 = some false := by simp [aggB, Tryd.underlying33]
theorem nI33 : noInt Tryd.prog 33 = true := by simp [noInt, Tryd.underlying33]
attribute [go_sem] Tryd.underlying33 tsz33 tby33 tz33 agg33 nI33
-- t 35 func([]uint8) ([]api.Tel, api.Errno)
theorem tsz35 : tsz Tryd.prog 35 = some 1 := by kernel_rfl
theorem tby35 : tby Tryd.prog 35 = some 8 := by kernel_rfl
theorem tz35 : tzero Tryd.prog 35 = some (.nilFunc) := by kernel_rfl
theorem agg35 : aggB Tryd.prog 35 = some false := by simp [aggB, Tryd.underlying35]
attribute [go_sem] Tryd.underlying35 tsz35 tby35 tz35 agg35
-- t 36 func([]api.Tel, []api.Tel) bool
theorem tsz36 : tsz Tryd.prog 36 = some 1 := by kernel_rfl
theorem tby36 : tby Tryd.prog 36 = some 8 := by kernel_rfl
theorem tz36 : tzero Tryd.prog 36 = some (.nilFunc) := by kernel_rfl
theorem agg36 : aggB Tryd.prog 36 = some false := by simp [aggB, Tryd.underlying36]
attribute [go_sem] Tryd.underlying36 tsz36 tby36 tz36 agg36
-- t 37 func(api.Tel) bool
theorem tsz37 : tsz Tryd.prog 37 = some 1 := by kernel_rfl
theorem tby37 : tby Tryd.prog 37 = some 8 := by kernel_rfl
theorem tz37 : tzero Tryd.prog 37 = some (.nilFunc) := by kernel_rfl
theorem agg37 : aggB Tryd.prog 37 = some false := by simp [aggB, Tryd.underlying37]
attribute [go_sem] Tryd.underlying37 tsz37 tby37 tz37 agg37
-- t 38 [][]uint8
theorem tsz38 : tsz Tryd.prog 38 = some 1 := by kernel_rfl
theorem tby38 : tby Tryd.prog 38 = some 24 := by kernel_rfl
theorem tz38 : tzero Tryd.prog 38 = some (.slice none 0 0) := by kernel_rfl
theorem agg38 : aggB Tryd.prog 38 = some false := by simp [aggB, Tryd.underlying38]
theorem nI38 : noInt Tryd.prog 38 = true := by simp [noInt, Tryd.underlying38]
attribute [go_sem] Tryd.underlying38 tsz38 tby38 tz38 agg38 nI38
-- t 39 []gangwayref22.Part
theorem tsz39 : tsz Tryd.prog 39 = some 1 := by kernel_rfl
theorem tby39 : tby Tryd.prog 39 = some 24 := by kernel_rfl
theorem tz39 : tzero Tryd.prog 39 = some (.slice none 0 0) := by kernel_rfl
theorem agg39 : aggB Tryd.prog 39 = some false := by simp [aggB, Tryd.underlying39]
theorem nI39 : noInt Tryd.prog 39 = true := by simp [noInt, Tryd.underlying39]
attribute [go_sem] Tryd.underlying39 tsz39 tby39 tz39 agg39 nI39
-- t 41 func([]uint8) ([]gangwayref22.Part, int)
theorem tsz41 : tsz Tryd.prog 41 = some 1 := by kernel_rfl
theorem tby41 : tby Tryd.prog 41 = some 8 := by kernel_rfl
theorem tz41 : tzero Tryd.prog 41 = some (.nilFunc) := by kernel_rfl
theorem agg41 : aggB Tryd.prog 41 = some false := by simp [aggB, Tryd.underlying41]
attribute [go_sem] Tryd.underlying41 tsz41 tby41 tz41 agg41
-- t 42 func([]gangwayref22.Part, int, int) []api.Tel
theorem tsz42 : tsz Tryd.prog 42 = some 1 := by kernel_rfl
theorem tby42 : tby Tryd.prog 42 = some 8 := by kernel_rfl
theorem tz42 : tzero Tryd.prog 42 = some (.nilFunc) := by kernel_rfl
theorem agg42 : aggB Tryd.prog 42 = some false := by simp [aggB, Tryd.underlying42]
attribute [go_sem] Tryd.underlying42 tsz42 tby42 tz42 agg42
-- t 43 func([][]uint8) bool
theorem tsz43 : tsz Tryd.prog 43 = some 1 := by kernel_rfl
theorem tby43 : tby Tryd.prog 43 = some 8 := by kernel_rfl
theorem tz43 : tzero Tryd.prog 43 = some (.nilFunc) := by kernel_rfl
theorem agg43 : aggB Tryd.prog 43 = some false := by simp [aggB, Tryd.underlying43]
attribute [go_sem] Tryd.underlying43 tsz43 tby43 tz43 agg43
-- t 44 []int
theorem tsz44 : tsz Tryd.prog 44 = some 1 := by kernel_rfl
theorem tby44 : tby Tryd.prog 44 = some 24 := by kernel_rfl
theorem tz44 : tzero Tryd.prog 44 = some (.slice none 0 0) := by kernel_rfl
theorem agg44 : aggB Tryd.prog 44 = some false := by simp [aggB, Tryd.underlying44]
theorem nI44 : noInt Tryd.prog 44 = true := by simp [noInt, Tryd.underlying44]
attribute [go_sem] Tryd.underlying44 tsz44 tby44 tz44 agg44 nI44
-- t 45 func([]api.Tel) []api.Tel
theorem tsz45 : tsz Tryd.prog 45 = some 1 := by kernel_rfl
theorem tby45 : tby Tryd.prog 45 = some 8 := by kernel_rfl
theorem tz45 : tzero Tryd.prog 45 = some (.nilFunc) := by kernel_rfl
theorem agg45 : aggB Tryd.prog 45 = some false := by simp [aggB, Tryd.underlying45]
attribute [go_sem] Tryd.underlying45 tsz45 tby45 tz45 agg45
-- t 46 func([]uint8, []int) bool
theorem tsz46 : tsz Tryd.prog 46 = some 1 := by kernel_rfl
theorem tby46 : tby Tryd.prog 46 = some 8 := by kernel_rfl
theorem tz46 : tzero Tryd.prog 46 = some (.nilFunc) := by kernel_rfl
theorem agg46 : aggB Tryd.prog 46 = some false := by simp [aggB, Tryd.underlying46]
attribute [go_sem] Tryd.underlying46 tsz46 tby46 tz46 agg46
-- t 47 func([][]uint8, int, int) bool
theorem tsz47 : tsz Tryd.prog 47 = some 1 := by kernel_rfl
theorem tby47 : tby Tryd.prog 47 = some 8 := by kernel_rfl
theorem tz47 : tzero Tryd.prog 47 = some (.nilFunc) := by kernel_rfl
theorem agg47 : aggB Tryd.prog 47 = some false := by simp [aggB, Tryd.underlying47]
attribute [go_sem] Tryd.underlying47 tsz47 tby47 tz47 agg47
-- t 49 func(api.Tel) (int, bool, []uint8, api.Errno)
theorem tsz49 : tsz Tryd.prog 49 = some 1 := by kernel_rfl
theorem tby49 : tby Tryd.prog 49 = some 8 := by kernel_rfl
theorem tz49 : tzero Tryd.prog 49 = some (.nilFunc) := by kernel_rfl
theorem agg49 : aggB Tryd.prog 49 = some false := by simp [aggB, Tryd.underlying49]
attribute [go_sem] Tryd.underlying49 tsz49 tby49 tz49 agg49
-- t 51 func(api.Tel) (int, bool, []uint8, bool)
theorem tsz51 : tsz Tryd.prog 51 = some 1 := by kernel_rfl
theorem tby51 : tby Tryd.prog 51 = some 8 := by kernel_rfl
theorem tz51 : tzero Tryd.prog 51 = some (.nilFunc) := by kernel_rfl
theorem agg51 : aggB Tryd.prog 51 = some false := by simp [aggB, Tryd.underlying51]
attribute [go_sem] Tryd.underlying51 tsz51 tby51 tz51 agg51
-- t 52 func() api.Tel
theorem tsz52 : tsz Tryd.prog 52 = some 1 := by kernel_rfl
theorem tby52 : tby Tryd.prog 52 = some 8 := by kernel_rfl
theorem tz52 : tzero Tryd.prog 52 = some (.nilFunc) := by kernel_rfl
theorem agg52 : aggB Tryd.prog 52 = some false := by simp [aggB, Tryd.underlying52]
attribute [go_sem] Tryd.underlying52 tsz52 tby52 tz52 agg52
-- t 53 func([]uint8) api.Tel
theorem tsz53 : tsz Tryd.prog 53 = some 1 := by kernel_rfl
theorem tby53 : tby Tryd.prog 53 = some 8 := by kernel_rfl
theorem tz53 : tzero Tryd.prog 53 = some (.nilFunc) := by kernel_rfl
theorem agg53 : aggB Tryd.prog 53 = some false := by simp [aggB, Tryd.underlying53]
attribute [go_sem] Tryd.underlying53 tsz53 tby53 tz53 agg53
-- t 54 func(bool, []uint8) api.Tel
theorem tsz54 : tsz Tryd.prog 54 = some 1 := by kernel_rfl
theorem tby54 : tby Tryd.prog 54 = some 8 := by kernel_rfl
theorem tz54 : tzero Tryd.prog 54 = some (.nilFunc) := by kernel_rfl
theorem agg54 : aggB Tryd.prog 54 = some false := by simp [aggB, Tryd.underlying54]
attribute [go_sem] Tryd.underlying54 tsz54 tby54 tz54 agg54
-- t 55 func(api.Tel, bool, []uint8) bool
theorem tsz55 : tsz Tryd.prog 55 = some 1 := by kernel_rfl
theorem tby55 : tby Tryd.prog 55 = some 8 := by kernel_rfl
theorem tz55 : tzero Tryd.prog 55 = some (.nilFunc) := by kernel_rfl
theorem agg55 : aggB Tryd.prog 55 = some false := by simp [aggB, Tryd.underlying55]
attribute [go_sem] Tryd.underlying55 tsz55 tby55 tz55 agg55
-- t 56 func(api.Tel) api.Errno
theorem tsz56 : tsz Tryd.prog 56 = some 1 := by kernel_rfl
theorem tby56 : tby Tryd.prog 56 = some 8 := by kernel_rfl
theorem tz56 : tzero Tryd.prog 56 = some (.nilFunc) := by kernel_rfl
theorem agg56 : aggB Tryd.prog 56 = some false := by simp [aggB, Tryd.underlying56]
attribute [go_sem] Tryd.underlying56 tsz56 tby56 tz56 agg56
-- t 57 func([]uint8) []uint8
theorem tsz57 : tsz Tryd.prog 57 = some 1 := by kernel_rfl
theorem tby57 : tby Tryd.prog 57 = some 8 := by kernel_rfl
theorem tz57 : tzero Tryd.prog 57 = some (.nilFunc) := by kernel_rfl
theorem agg57 : aggB Tryd.prog 57 = some false := by simp [aggB, Tryd.underlying57]
attribute [go_sem] Tryd.underlying57 tsz57 tby57 tz57 agg57
-- t 58 struct ( state int; part api.Tel; out []api.Tel; broken api.Errno )
theorem tsz58 : tsz Tryd.prog 58 = some 7 := by kernel_rfl
theorem tby58 : tby Tryd.prog 58 = some 88 := by kernel_rfl
theorem tz58 : tzero Tryd.prog 58 = some (.agg #[.int .i64 0, .int .i64 0, .int .i64 0, .int .i64 0, .slice none 0 0, .slice none 0 0, .int .i64 0]) := by kernel_rfl
theorem agg58 : aggB Tryd.prog 58 = some true := by simp [aggB, Tryd.underlying58]
attribute [go_sem] Tryd.underlying58 tsz58 tby58 tz58 agg58
-- t 59 telopt.Reader = gangway/telopt.Reader
theorem tsz59 : tsz Tryd.prog 59 = some 7 := by kernel_rfl
theorem tby59 : tby Tryd.prog 59 = some 88 := by kernel_rfl
theorem tz59 : tzero Tryd.prog 59 = some (.agg #[.int .i64 0, .int .i64 0, .int .i64 0, .int .i64 0, .slice none 0 0, .slice none 0 0, .int .i64 0]) := by kernel_rfl
theorem agg59 : aggB Tryd.prog 59 = some true := by simp [aggB, Tryd.underlying59]
attribute [go_sem] Tryd.underlying59 tsz59 tby59 tz59 agg59
-- t 60 func(uint8)
theorem tsz60 : tsz Tryd.prog 60 = some 1 := by kernel_rfl
theorem tby60 : tby Tryd.prog 60 = some 8 := by kernel_rfl
theorem tz60 : tzero Tryd.prog 60 = some (.nilFunc) := by kernel_rfl
theorem agg60 : aggB Tryd.prog 60 = some false := by simp [aggB, Tryd.underlying60]
attribute [go_sem] Tryd.underlying60 tsz60 tby60 tz60 agg60
-- t 61 struct ( T api.Tel; At int )
theorem tsz61 : tsz Tryd.prog 61 = some 5 := by kernel_rfl
theorem tby61 : tby Tryd.prog 61 = some 56 := by kernel_rfl
theorem tz61 : tzero Tryd.prog 61 = some (.agg #[.int .i64 0, .int .i64 0, .int .i64 0, .slice none 0 0, .int .i64 0]) := by kernel_rfl
theorem agg61 : aggB Tryd.prog 61 = some true := by simp [aggB, Tryd.underlying61]
attribute [go_sem] Tryd.underlying61 tsz61 tby61 tz61 agg61
-- t 62 gangwayref22.Part = gangway/gangwayref22.Part
theorem tsz62 : tsz Tryd.prog 62 = some 5 := by kernel_rfl
theorem tby62 : tby Tryd.prog 62 = some 56 := by kernel_rfl
theorem tz62 : tzero Tryd.prog 62 = some (.agg #[.int .i64 0, .int .i64 0, .int .i64 0, .slice none 0 0, .int .i64 0]) := by kernel_rfl
theorem agg62 : aggB Tryd.prog 62 = some true := by simp [aggB, Tryd.underlying62]
attribute [go_sem] Tryd.underlying62 tsz62 tby62 tz62 agg62
-- t 64 func([]uint8, int) (api.Tel, int, int)
theorem tsz64 : tsz Tryd.prog 64 = some 1 := by kernel_rfl
theorem tby64 : tby Tryd.prog 64 = some 8 := by kernel_rfl
theorem tz64 : tzero Tryd.prog 64 = some (.nilFunc) := by kernel_rfl
theorem agg64 : aggB Tryd.prog 64 = some false := by simp [aggB, Tryd.underlying64]
attribute [go_sem] Tryd.underlying64 tsz64 tby64 tz64 agg64
-- t 65 [4]api.Tel
theorem tsz65 : tsz Tryd.prog 65 = some 16 := by kernel_rfl
theorem tby65 : tby Tryd.prog 65 = some 192 := by kernel_rfl
theorem tz65 : tzero Tryd.prog 65 = some (.agg #[.int .i64 0, .int .i64 0, .int .i64 0, .slice none 0 0, .int .i64 0, .int .i64 0, .int .i64 0, .slice none 0 0, .int .i64 0, .int .i64 0, .int .i64 0, .slice none 0 0, .int .i64 0, .int .i64 0, .int .i64 0, .slice none 0 0]) := by kernel_rfl
theorem agg65 : aggB Tryd.prog 65 = some true := by simp [aggB, Tryd.underlying65]
attribute [go_sem] Tryd.underlying65 tsz65 tby65 tz65 agg65
-- t 67 func([]uint8, []uint8) ([]uint8, bool)
theorem tsz67 : tsz Tryd.prog 67 = some 1 := by kernel_rfl
theorem tby67 : tby Tryd.prog 67 = some 8 := by kernel_rfl
theorem tz67 : tzero Tryd.prog 67 = some (.nilFunc) := by kernel_rfl
theorem agg67 : aggB Tryd.prog 67 = some false := by simp [aggB, Tryd.underlying67]
attribute [go_sem] Tryd.underlying67 tsz67 tby67 tz67 agg67
-- t 68 func([]uint8, []uint8) api.Tel
theorem tsz68 : tsz Tryd.prog 68 = some 1 := by kernel_rfl
theorem tby68 : tby Tryd.prog 68 = some 8 := by kernel_rfl
theorem tz68 : tzero Tryd.prog 68 = some (.nilFunc) := by kernel_rfl
theorem agg68 : aggB Tryd.prog 68 = some false := by simp [aggB, Tryd.underlying68]
attribute [go_sem] Tryd.underlying68 tsz68 tby68 tz68 agg68
-- t 69 func([]uint8, []uint8, []uint8) []uint8
theorem tsz69 : tsz Tryd.prog 69 = some 1 := by kernel_rfl
theorem tby69 : tby Tryd.prog 69 = some 8 := by kernel_rfl
theorem tz69 : tzero Tryd.prog 69 = some (.nilFunc) := by kernel_rfl
theorem agg69 : aggB Tryd.prog 69 = some false := by simp [aggB, Tryd.underlying69]
attribute [go_sem] Tryd.underlying69 tsz69 tby69 tz69 agg69
-- t 70 func([]uint8, []uint8) bool
theorem tsz70 : tsz Tryd.prog 70 = some 1 := by kernel_rfl
theorem tby70 : tby Tryd.prog 70 = some 8 := by kernel_rfl
theorem tz70 : tzero Tryd.prog 70 = some (.nilFunc) := by kernel_rfl
theorem agg70 : aggB Tryd.prog 70 = some false := by simp [aggB, Tryd.underlying70]
attribute [go_sem] Tryd.underlying70 tsz70 tby70 tz70 agg70
-- t 71 func([]uint8, []uint8, []uint8, int) []uint8
theorem tsz71 : tsz Tryd.prog 71 = some 1 := by kernel_rfl
theorem tby71 : tby Tryd.prog 71 = some 8 := by kernel_rfl
theorem tz71 : tzero Tryd.prog 71 = some (.nilFunc) := by kernel_rfl
theorem agg71 : aggB Tryd.prog 71 = some false := by simp [aggB, Tryd.underlying71]
attribute [go_sem] Tryd.underlying71 tsz71 tby71 tz71 agg71
-- t 72 func([]uint8, []uint8) int
theorem tsz72 : tsz Tryd.prog 72 = some 1 := by kernel_rfl
theorem tby72 : tby Tryd.prog 72 = some 8 := by kernel_rfl
theorem tz72 : tzero Tryd.prog 72 = some (.nilFunc) := by kernel_rfl
theorem agg72 : aggB Tryd.prog 72 = some false := by simp [aggB, Tryd.underlying72]
attribute [go_sem] Tryd.underlying72 tsz72 tby72 tz72 agg72
-- t 74 func([]uint8) (int32, int)
theorem tsz74 : tsz Tryd.prog 74 = some 1 := by kernel_rfl
theorem tby74 : tby Tryd.prog 74 = some 8 := by kernel_rfl
theorem tz74 : tzero Tryd.prog 74 = some (.nilFunc) := by kernel_rfl
theorem agg74 : aggB Tryd.prog 74 = some false := by simp [aggB, Tryd.underlying74]
attribute [go_sem] Tryd.underlying74 tsz74 tby74 tz74 agg74
-- t 75 func([]uint8) int
theorem tsz75 : tsz Tryd.prog 75 = some 1 := by kernel_rfl
theorem tby75 : tby Tryd.prog 75 = some 8 := by kernel_rfl
theorem tz75 : tzero Tryd.prog 75 = some (.nilFunc) := by kernel_rfl
theorem agg75 : aggB Tryd.prog 75 = some false := by simp [aggB, Tryd.underlying75]
attribute [go_sem] Tryd.underlying75 tsz75 tby75 tz75 agg75
-- t 76 func([]uint8, uint8) int
theorem tsz76 : tsz Tryd.prog 76 = some 1 := by kernel_rfl
theorem tby76 : tby Tryd.prog 76 = some 8 := by kernel_rfl
theorem tz76 : tzero Tryd.prog 76 = some (.nilFunc) := by kernel_rfl
theorem agg76 : aggB Tryd.prog 76 = some false := by simp [aggB, Tryd.underlying76]
attribute [go_sem] Tryd.underlying76 tsz76 tby76 tz76 agg76
-- t 77 func(int) int
theorem tsz77 : tsz Tryd.prog 77 = some 1 := by kernel_rfl
theorem tby77 : tby Tryd.prog 77 = some 8 := by kernel_rfl
theorem tz77 : tzero Tryd.prog 77 = some (.nilFunc) := by kernel_rfl
theorem agg77 : aggB Tryd.prog 77 = some false := by simp [aggB, Tryd.underlying77]
attribute [go_sem] Tryd.underlying77 tsz77 tby77 tz77 agg77
-- t 78 uint
theorem tsz78 : tsz Tryd.prog 78 = some 1 := by kernel_rfl
theorem tby78 : tby Tryd.prog 78 = some 8 := by kernel_rfl
theorem tz78 : tzero Tryd.prog 78 = some (.int .u64 0) := by kernel_rfl
theorem agg78 : aggB Tryd.prog 78 = some false := by simp [aggB, Tryd.underlying78]
attribute [go_sem] Tryd.underlying78 tsz78 tby78 tz78 agg78
-- t 79 func(string) int
theorem tsz79 : tsz Tryd.prog 79 = some 1 := by kernel_rfl
theorem tby79 : tby Tryd.prog 79 = some 8 := by kernel_rfl
theorem tz79 : tzero Tryd.prog 79 = some (.nilFunc) := by kernel_rfl
theorem agg79 : aggB Tryd.prog 79 = some false := by simp [aggB, Tryd.underlying79]
attribute [go_sem] Tryd.underlying79 tsz79 tby79 tz79 agg79
-- t 80 uint32
theorem tsz80 : tsz Tryd.prog 80 = some 1 := by kernel_rfl
theorem tby80 : tby Tryd.prog 80 = some 4 := by kernel_rfl
theorem tz80 : tzero Tryd.prog 80 = some (.int .u32 0) := by kernel_rfl
theorem agg80 : aggB Tryd.prog 80 = some false := by simp [aggB, Tryd.underlying80]
attribute [go_sem] Tryd.underlying80 tsz80 tby80 tz80 agg80
-- t 82 func([]uint8) (uint32, uint32)
theorem tsz82 : tsz Tryd.prog 82 = some 1 := by kernel_rfl
theorem tby82 : tby Tryd.prog 82 = some 8 := by kernel_rfl
theorem tz82 : tzero Tryd.prog 82 = some (.nilFunc) := by kernel_rfl
theorem agg82 : aggB Tryd.prog 82 = some false := by simp [aggB, Tryd.underlying82]
attribute [go_sem] Tryd.underlying82 tsz82 tby82 tz82 agg82
-- t 83 [256]uint8
theorem tsz83 : tsz Tryd.prog 83 = some 256 := by kernel_rfl
theorem tby83 : tby Tryd.prog 83 = some 256 := by kernel_rfl
theorem agg83 : aggB Tryd.prog 83 = some true := by simp [aggB, Tryd.underlying83]
attribute [go_sem] Tryd.underlying83 tsz83 tby83 agg83
-- t 84 struct ( lo uint8; hi uint8 )
theorem tsz84 : tsz Tryd.prog 84 = some 2 := by kernel_rfl
theorem tby84 : tby Tryd.prog 84 = some 2 := by kernel_rfl
theorem tz84 : tzero Tryd.prog 84 = some (.agg #[.int .u8 0, .int .u8 0]) := by kernel_rfl
theorem agg84 : aggB Tryd.prog 84 = some true := by simp [aggB, Tryd.underlying84]
attribute [go_sem] Tryd.underlying84 tsz84 tby84 tz84 agg84
-- t 85 utf8.acceptRange = unicode/utf8.acceptRange
theorem tsz85 : tsz Tryd.prog 85 = some 2 := by kernel_rfl
theorem tby85 : tby Tryd.prog 85 = some 2 := by kernel_rfl
theorem tz85 : tzero Tryd.prog 85 = some (.agg #[.int .u8 0, .int .u8 0]) := by kernel_rfl
theorem agg85 : aggB Tryd.prog 85 = some true := by simp [aggB, Tryd.underlying85]
attribute [go_sem] Tryd.underlying85 tsz85 tby85 tz85 agg85
-- t 86 [16]utf8.acceptRange
theorem tsz86 : tsz Tryd.prog 86 = some 32 := by kernel_rfl
theorem tby86 : tby Tryd.prog 86 = some 32 := by kernel_rfl
theorem tz86 : tzero Tryd.prog 86 = some (.agg #[.int .u8 0, .int .u8 0, .int .u8 0, .int .u8 0, .int .u8 0, .int .u8 0, .int .u8 0, .int .u8 0, .int .u8 0, .int .u8 0, .int .u8 0, .int .u8 0, .int .u8 0, .int .u8 0, .int .u8 0, .int .u8 0, .int .u8 0, .int .u8 0, .int .u8 0, .int .u8 0, .int .u8 0, .int .u8 0, .int .u8 0, .int .u8 0, .int .u8 0, .int .u8 0, .int .u8 0, .int .u8 0, .int .u8 0, .int .u8 0, .int .u8 0, .int .u8 0]) := by kernel_rfl
theorem agg86 : aggB Tryd.prog 86 = some true := by simp [aggB, Tryd.underlying86]
attribute [go_sem] Tryd.underlying86 tsz86 tby86 tz86 agg86
-- t 87 func() string
theorem tsz87 : tsz Tryd.prog 87 = some 1 := by kernel_rfl
theorem tby87 : tby Tryd.prog 87 = some 8 := by kernel_rfl
theorem tz87 : tzero Tryd.prog 87 = some (.nilFunc) := by kernel_rfl
theorem agg87 : aggB Tryd.prog 87 = some false := by simp [aggB, Tryd.underlying87]
attribute [go_sem] Tryd.underlying87 tsz87 tby87 tz87 agg87
-- t 93 func() int
theorem tsz93 : tsz Tryd.prog 93 = some 1 := by kernel_rfl
theorem tby93 : tby Tryd.prog 93 = some 8 := by kernel_rfl
theorem tz93 : tzero Tryd.prog 93 = some (.nilFunc) := by kernel_rfl
theorem agg93 : aggB Tryd.prog 93 = some false := by simp [aggB, Tryd.underlying93]
attribute [go_sem] Tryd.underlying93 tsz93 tby93 tz93 agg93
-- t 97 *uint8
theorem tsz97 : tsz Tryd.prog 97 = some 1 := by kernel_rfl
theorem tby97 : tby Tryd.prog 97 = some 8 := by kernel_rfl
theorem tz97 : tzero Tryd.prog 97 = some (.pointer none) := by kernel_rfl
theorem agg97 : aggB Tryd.prog 97 = some false := by simp [aggB, Tryd.underlying97]
attribute [go_sem] Tryd.underlying97 tsz97 tby97 tz97 agg97
end L22
