import Derived.Test.YtdbonhhdpaklhaaGreatDoorProg
import Derived.KernelRfl
import Derived.Test.YtdbonhhdpaklhaaGreatDoorAbLibD
open Go Ab Go.Proofs
namespace L23
set_option autoImplicit false
set_option linter.unusedSimpArgs false
set_option linter.unusedVariables false

theorem hmix : Tryz.prog.follows .mixedOrders = true := by kernel_rfl
-- t 1 func()
theorem tsz1 : tsz Tryz.prog 1 = some 1 := by kernel_rfl
theorem tby1 : tby Tryz.prog 1 = some 8 := by kernel_rfl
theorem tz1 : tzero Tryz.prog 1 = some (.nilFunc) := by kernel_rfl
theorem agg1 : aggB Tryz.prog 1 = some false := by simp [aggB, Tryz.underlying1]
attribute [go_sem] Tryz.underlying1 tsz1 tby1 tz1 agg1
-- t 2 int64
theorem tsz2 : tsz Tryz.prog 2 = some 1 := by kernel_rfl
theorem tby2 : tby Tryz.prog 2 = some 8 := by kernel_rfl
theorem tz2 : tzero Tryz.prog 2 = some (.int .i64 0) := by kernel_rfl
theorem agg2 : aggB Tryz.prog 2 = some false := by simp [aggB, Tryz.underlying2]
attribute [go_sem] Tryz.underlying2 tsz2 tby2 tz2 agg2
-- t 3 int
theorem tsz3 : tsz Tryz.prog 3 = some 1 := by kernel_rfl
theorem tby3 : tby Tryz.prog 3 = some 8 := by kernel_rfl
theorem tz3 : tzero Tryz.prog 3 = some (.int .i64 0) := by kernel_rfl
theorem agg3 : aggB Tryz.prog 3 = some false := by simp [aggB, Tryz.underlying3]
attribute [go_sem] Tryz.underlying3 tsz3 tby3 tz3 agg3
-- t 4 bool
theorem tsz4 : tsz Tryz.prog 4 = some 1 := by kernel_rfl
theorem tby4 : tby Tryz.prog 4 = some 1 := by kernel_rfl
theorem tz4 : tzero Tryz.prog 4 = some (.bool false) := by kernel_rfl
theorem agg4 : aggB Tryz.prog 4 = some false := by simp [aggB, Tryz.underlying4]
attribute [go_sem] Tryz.underlying4 tsz4 tby4 tz4 agg4
-- t 5 uint8
theorem tsz5 : tsz Tryz.prog 5 = some 1 := by kernel_rfl
theorem tby5 : tby Tryz.prog 5 = some 1 := by kernel_rfl
theorem tz5 : tzero Tryz.prog 5 = some (.int .u8 0) := by kernel_rfl
theorem agg5 : aggB Tryz.prog 5 = some false := by simp [aggB, Tryz.underlying5]
attribute [go_sem] Tryz.underlying5 tsz5 tby5 tz5 agg5
-- t 9 string
theorem tsz9 : tsz Tryz.prog 9 = some 1 := by kernel_rfl
theorem tby9 : tby Tryz.prog 9 = some 16 := by kernel_rfl
theorem tz9 : tzero Tryz.prog 9 = some (.string ⟨#[]⟩) := by kernel_rfl
theorem agg9 : aggB Tryz.prog 9 = some false := by simp [aggB, Tryz.underlying9]
theorem nI9 : noInt Tryz.prog 9 = true := by simp [noInt, Tryz.underlying9]
attribute [go_sem] Tryz.underlying9 tsz9 tby9 tz9 agg9 nI9
-- t 20 interface ()
theorem tsz20 : tsz Tryz.prog 20 = some 1 := by kernel_rfl
theorem tby20 : tby Tryz.prog 20 = some 16 := by kernel_rfl
theorem tz20 : tzero Tryz.prog 20 = some (.nilIface) := by kernel_rfl
theorem agg20 : aggB Tryz.prog 20 = some false := by simp [aggB, Tryz.underlying20]
attribute [go_sem] Tryz.underlying20 tsz20 tby20 tz20 agg20
-- t 21 int32
theorem tsz21 : tsz Tryz.prog 21 = some 1 := by kernel_rfl
theorem tby21 : tby Tryz.prog 21 = some 4 := by kernel_rfl
theorem tz21 : tzero Tryz.prog 21 = some (.int .i32 0) := by kernel_rfl
theorem agg21 : aggB Tryz.prog 21 = some false := by simp [aggB, Tryz.underlying21]
attribute [go_sem] Tryz.underlying21 tsz21 tby21 tz21 agg21
-- t 22 []gangwaylaw23.Op
theorem tsz22 : tsz Tryz.prog 22 = some 1 := by kernel_rfl
theorem tby22 : tby Tryz.prog 22 = some 24 := by kernel_rfl
theorem tz22 : tzero Tryz.prog 22 = some (.slice none 0 0) := by kernel_rfl
theorem agg22 : aggB Tryz.prog 22 = some false := by simp [aggB, Tryz.underlying22]
theorem nI22 : noInt Tryz.prog 22 = true := by simp [noInt, Tryz.underlying22]
attribute [go_sem] Tryz.underlying22 tsz22 tby22 tz22 agg22 nI22
-- t 23 []int
theorem tsz23 : tsz Tryz.prog 23 = some 1 := by kernel_rfl
theorem tby23 : tby Tryz.prog 23 = some 24 := by kernel_rfl
theorem tz23 : tzero Tryz.prog 23 = some (.slice none 0 0) := by kernel_rfl
theorem agg23 : aggB Tryz.prog 23 = some false := by simp [aggB, Tryz.underlying23]
theorem nI23 : noInt Tryz.prog 23 = true := by simp [noInt, Tryz.underlying23]
attribute [go_sem] Tryz.underlying23 tsz23 tby23 tz23 agg23 nI23
-- t 24 struct ( Who string; From string; To string; All bool; Modes bool; Cuts []int )
theorem tsz24 : tsz Tryz.prog 24 = some 6 := by kernel_rfl
theorem tby24 : tby Tryz.prog 24 = some 80 := by kernel_rfl
theorem tz24 : tzero Tryz.prog 24 = some (.agg #[.string ⟨#[]⟩, .string ⟨#[]⟩, .string ⟨#[]⟩, .bool false, .bool false, .slice none 0 0]) := by kernel_rfl
theorem agg24 : aggB Tryz.prog 24 = some true := by simp [aggB, Tryz.underlying24]
attribute [go_sem] Tryz.underlying24 tsz24 tby24 tz24 agg24
-- t 25 gangwaylaw23.Copy = gangway/gangwaylaw23.Copy
theorem tsz25 : tsz Tryz.prog 25 = some 6 := by kernel_rfl
theorem tby25 : tby Tryz.prog 25 = some 80 := by kernel_rfl
theorem tz25 : tzero Tryz.prog 25 = some (.agg #[.string ⟨#[]⟩, .string ⟨#[]⟩, .string ⟨#[]⟩, .bool false, .bool false, .slice none 0 0]) := by kernel_rfl
theorem agg25 : aggB Tryz.prog 25 = some true := by simp [aggB, Tryz.underlying25]
attribute [go_sem] Tryz.underlying25 tsz25 tby25 tz25 agg25
-- t 26 func() bool
theorem tsz26 : tsz Tryz.prog 26 = some 1 := by kernel_rfl
theorem tby26 : tby Tryz.prog 26 = some 8 := by kernel_rfl
theorem tz26 : tzero Tryz.prog 26 = some (.nilFunc) := by kernel_rfl
theorem agg26 : aggB Tryz.prog 26 = some false := by simp [aggB, Tryz.underlying26]
attribute [go_sem] Tryz.underlying26 tsz26 tby26 tz26 agg26
-- t 27 func([]gangwaylaw23.Op) bool
theorem tsz27 : tsz Tryz.prog 27 = some 1 := by kernel_rfl
theorem tby27 : tby Tryz.prog 27 = some 8 := by kernel_rfl
theorem tz27 : tzero Tryz.prog 27 = some (.nilFunc) := by kernel_rfl
theorem agg27 : aggB Tryz.prog 27 = some false := by simp [aggB, Tryz.underlying27]
attribute [go_sem] Tryz.underlying27 tsz27 tby27 tz27 agg27
-- t 28 *tree.Tree
theorem tsz28 : tsz Tryz.prog 28 = some 1 := by kernel_rfl
theorem tby28 : tby Tryz.prog 28 = some 8 := by kernel_rfl
theorem tz28 : tzero Tryz.prog 28 = some (.pointer none) := by kernel_rfl
theorem agg28 : aggB Tryz.prog 28 = some false := by simp [aggB, Tryz.underlying28]
attribute [go_sem] Tryz.underlying28 tsz28 tby28 tz28 agg28
-- t 29 *gangwayref19.Tree
theorem tsz29 : tsz Tryz.prog 29 = some 1 := by kernel_rfl
theorem tby29 : tby Tryz.prog 29 = some 8 := by kernel_rfl
theorem tz29 : tzero Tryz.prog 29 = some (.pointer none) := by kernel_rfl
theorem agg29 : aggB Tryz.prog 29 = some false := by simp [aggB, Tryz.underlying29]
attribute [go_sem] Tryz.underlying29 tsz29 tby29 tz29 agg29
-- t 31 func([]gangwaylaw23.Op) (*tree.Tree, *gangwayref19.Tree)
theorem tsz31 : tsz Tryz.prog 31 = some 1 := by kernel_rfl
theorem tby31 : tby Tryz.prog 31 = some 8 := by kernel_rfl
theorem tz31 : tzero Tryz.prog 31 = some (.nilFunc) := by kernel_rfl
theorem agg31 : aggB Tryz.prog 31 = some false := by simp [aggB, Tryz.underlying31]
attribute [go_sem] Tryz.underlying31 tsz31 tby31 tz31 agg31
-- t 32 []uint8
theorem tsz32 : tsz Tryz.prog 32 = some 1 := by kernel_rfl
theorem tby32 : tby Tryz.prog 32 = some 24 := by kernel_rfl
theorem tz32 : tzero Tryz.prog 32 = some (.slice none 0 0) := by kernel_rfl
theorem agg32 : aggB Tryz.prog 32 = some false := by simp [aggB, Tryz.underlying32]
theorem nI32 : noInt Tryz.prog 32 = true := by simp [noInt, Tryz.underlying32]
attribute [go_sem] Tryz.underlying32 tsz32 tby32 tz32 agg32 nI32
-- t 33 api.Errno = gangway/api.Errno
theorem tsz33 : tsz Tryz.prog 33 = some 1 := by kernel_rfl
theorem tby33 : tby Tryz.prog 33 = some 8 := by kernel_rfl
theorem tz33 : tzero Tryz.prog 33 = some (.int .i64 0) := by kernel_rfl
theorem agg33 : aggB Tryz.prog 33 = some false := by simp [aggB, Tryz.underlying33]
attribute [go_sem] Tryz.underlying33 tsz33 tby33 tz33 agg33
-- t 35 func(*tree.Tree, string, string, bool) ([]uint8, api.Errno)
theorem tsz35 : tsz Tryz.prog 35 = some 1 := by kernel_rfl
theorem tby35 : tby Tryz.prog 35 = some 8 := by kernel_rfl
theorem tz35 : tzero Tryz.prog 35 = some (.nilFunc) := by kernel_rfl
theorem agg35 : aggB Tryz.prog 35 = some false := by simp [aggB, Tryz.underlying35]
attribute [go_sem] Tryz.underlying35 tsz35 tby35 tz35 agg35
-- t 37 func(*gangwayref19.Tree, string, string, bool) (string, int)
theorem tsz37 : tsz Tryz.prog 37 = some 1 := by kernel_rfl
theorem tby37 : tby Tryz.prog 37 = some 8 := by kernel_rfl
theorem tz37 : tzero Tryz.prog 37 = some (.nilFunc) := by kernel_rfl
theorem agg37 : aggB Tryz.prog 37 = some false := by simp [aggB, Tryz.underlying37]
attribute [go_sem] Tryz.underlying37 tsz37 tby37 tz37 agg37
-- t 38 func([]api.Node, []api.Node) bool
theorem tsz38 : tsz Tryz.prog 38 = some 1 := by kernel_rfl
theorem tby38 : tby Tryz.prog 38 = some 8 := by kernel_rfl
theorem tz38 : tzero Tryz.prog 38 = some (.nilFunc) := by kernel_rfl
theorem agg38 : aggB Tryz.prog 38 = some false := by simp [aggB, Tryz.underlying38]
attribute [go_sem] Tryz.underlying38 tsz38 tby38 tz38 agg38
-- t 39 []api.Node
theorem tsz39 : tsz Tryz.prog 39 = some 1 := by kernel_rfl
theorem tby39 : tby Tryz.prog 39 = some 24 := by kernel_rfl
theorem tz39 : tzero Tryz.prog 39 = some (.slice none 0 0) := by kernel_rfl
theorem agg39 : aggB Tryz.prog 39 = some false := by simp [aggB, Tryz.underlying39]
theorem nI39 : noInt Tryz.prog 39 = true := by simp [noInt, Tryz.underlying39]
attribute [go_sem] Tryz.underlying39 tsz39 tby39 tz39 agg39 nI39
-- t 40 func() []api.Node
theorem tsz40 : tsz Tryz.prog 40 = some 1 := by kernel_rfl
theorem tby40 : tby Tryz.prog 40 = some 8 := by kernel_rfl
theorem tz40 : tzero Tryz.prog 40 = some (.nilFunc) := by kernel_rfl
theorem agg40 : aggB Tryz.prog 40 = some false := by simp [aggB, Tryz.underlying40]
attribute [go_sem] Tryz.underlying40 tsz40 tby40 tz40 agg40
-- t 41 struct ( N []api.Node )
theorem tsz41 : tsz Tryz.prog 41 = some 1 := by kernel_rfl
theorem tby41 : tby Tryz.prog 41 = some 24 := by kernel_rfl
theorem tz41 : tzero Tryz.prog 41 = some (.agg #[.slice none 0 0]) := by kernel_rfl
theorem agg41 : aggB Tryz.prog 41 = some true := by simp [aggB, Tryz.underlying41]
attribute [go_sem] Tryz.underlying41 tsz41 tby41 tz41 agg41
-- t 42 gangwayref19.Tree = gangway/gangwayref19.Tree
theorem tsz42 : tsz Tryz.prog 42 = some 1 := by kernel_rfl
theorem tby42 : tby Tryz.prog 42 = some 24 := by kernel_rfl
theorem tz42 : tzero Tryz.prog 42 = some (.agg #[.slice none 0 0]) := by kernel_rfl
theorem agg42 : aggB Tryz.prog 42 = some true := by simp [aggB, Tryz.underlying42]
attribute [go_sem] Tryz.underlying42 tsz42 tby42 tz42 agg42
-- t 43 func([]gangwaylaw23.Op, gangwaylaw23.Copy) bool
theorem tsz43 : tsz Tryz.prog 43 = some 1 := by kernel_rfl
theorem tby43 : tby Tryz.prog 43 = some 8 := by kernel_rfl
theorem tz43 : tzero Tryz.prog 43 = some (.nilFunc) := by kernel_rfl
theorem agg43 : aggB Tryz.prog 43 = some false := by simp [aggB, Tryz.underlying43]
attribute [go_sem] Tryz.underlying43 tsz43 tby43 tz43 agg43
-- t 44 *rcp.Sink
theorem tsz44 : tsz Tryz.prog 44 = some 1 := by kernel_rfl
theorem tby44 : tby Tryz.prog 44 = some 8 := by kernel_rfl
theorem tz44 : tzero Tryz.prog 44 = some (.pointer none) := by kernel_rfl
theorem agg44 : aggB Tryz.prog 44 = some false := by simp [aggB, Tryz.underlying44]
attribute [go_sem] Tryz.underlying44 tsz44 tby44 tz44 agg44
-- t 45 func(*tree.Tree, string, string, bool) *rcp.Sink
theorem tsz45 : tsz Tryz.prog 45 = some 1 := by kernel_rfl
theorem tby45 : tby Tryz.prog 45 = some 8 := by kernel_rfl
theorem tz45 : tzero Tryz.prog 45 = some (.nilFunc) := by kernel_rfl
theorem agg45 : aggB Tryz.prog 45 = some false := by simp [aggB, Tryz.underlying45]
attribute [go_sem] Tryz.underlying45 tsz45 tby45 tz45 agg45
-- t 46 struct ( Path string; Dir bool; Owner string; Mode int; Data []uint8 )
theorem tsz46 : tsz Tryz.prog 46 = some 5 := by kernel_rfl
theorem tby46 : tby Tryz.prog 46 = some 72 := by kernel_rfl
theorem tz46 : tzero Tryz.prog 46 = some (.agg #[.string ⟨#[]⟩, .bool false, .string ⟨#[]⟩, .int .i64 0, .slice none 0 0]) := by kernel_rfl
theorem agg46 : aggB Tryz.prog 46 = some true := by simp [aggB, Tryz.underlying46]
attribute [go_sem] Tryz.underlying46 tsz46 tby46 tz46 agg46
-- t 47 api.Node = gangway/api.Node
theorem tsz47 : tsz Tryz.prog 47 = some 5 := by kernel_rfl
theorem tby47 : tby Tryz.prog 47 = some 72 := by kernel_rfl
theorem tz47 : tzero Tryz.prog 47 = some (.agg #[.string ⟨#[]⟩, .bool false, .string ⟨#[]⟩, .int .i64 0, .slice none 0 0]) := by kernel_rfl
theorem agg47 : aggB Tryz.prog 47 = some true := by simp [aggB, Tryz.underlying47]
attribute [go_sem] Tryz.underlying47 tsz47 tby47 tz47 agg47
-- t 49 func(string, string) (api.Node, api.Errno)
theorem tsz49 : tsz Tryz.prog 49 = some 1 := by kernel_rfl
theorem tby49 : tby Tryz.prog 49 = some 8 := by kernel_rfl
theorem tz49 : tzero Tryz.prog 49 = some (.nilFunc) := by kernel_rfl
theorem agg49 : aggB Tryz.prog 49 = some false := by simp [aggB, Tryz.underlying49]
attribute [go_sem] Tryz.underlying49 tsz49 tby49 tz49 agg49
-- t 50 func([]uint8) api.Errno
theorem tsz50 : tsz Tryz.prog 50 = some 1 := by kernel_rfl
theorem tby50 : tby Tryz.prog 50 = some 8 := by kernel_rfl
theorem tz50 : tzero Tryz.prog 50 = some (.nilFunc) := by kernel_rfl
theorem agg50 : aggB Tryz.prog 50 = some false := by simp [aggB, Tryz.underlying50]
attribute [go_sem] Tryz.underlying50 tsz50 tby50 tz50 agg50
-- t 51 func() api.Errno
theorem tsz51 : tsz Tryz.prog 51 = some 1 := by kernel_rfl
theorem tby51 : tby Tryz.prog 51 = some 8 := by kernel_rfl
theorem tz51 : tzero Tryz.prog 51 = some (.nilFunc) := by kernel_rfl
theorem agg51 : aggB Tryz.prog 51 = some false := by simp [aggB, Tryz.underlying51]
attribute [go_sem] Tryz.underlying51 tsz51 tby51 tz51 agg51
-- t 52 func([]gangwaylaw23.Op, string) bool
theorem tsz52 : tsz Tryz.prog 52 = some 1 := by kernel_rfl
theorem tby52 : tby Tryz.prog 52 = some 8 := by kernel_rfl
theorem tz52 : tzero Tryz.prog 52 = some (.nilFunc) := by kernel_rfl
theorem agg52 : aggB Tryz.prog 52 = some false := by simp [aggB, Tryz.underlying52]
attribute [go_sem] Tryz.underlying52 tsz52 tby52 tz52 agg52
-- t 53 map[string]int
theorem tsz53 : tsz Tryz.prog 53 = some 1 := by kernel_rfl
theorem tby53 : tby Tryz.prog 53 = some 8 := by kernel_rfl
theorem tz53 : tzero Tryz.prog 53 = some (.map none) := by kernel_rfl
theorem agg53 : aggB Tryz.prog 53 = some false := by simp [aggB, Tryz.underlying53]
attribute [go_sem] Tryz.underlying53 tsz53 tby53 tz53 agg53
-- t 54 func(string, string) bool
theorem tsz54 : tsz Tryz.prog 54 = some 1 := by kernel_rfl
theorem tby54 : tby Tryz.prog 54 = some 8 := by kernel_rfl
theorem tz54 : tzero Tryz.prog 54 = some (.nilFunc) := by kernel_rfl
theorem agg54 : aggB Tryz.prog 54 = some false := by simp [aggB, Tryz.underlying54]
attribute [go_sem] Tryz.underlying54 tsz54 tby54 tz54 agg54
-- t 55 func(string, api.Node, int) bool
theorem tsz55 : tsz Tryz.prog 55 = some 1 := by kernel_rfl
theorem tby55 : tby Tryz.prog 55 = some 8 := by kernel_rfl
theorem tz55 : tzero Tryz.prog 55 = some (.nilFunc) := by kernel_rfl
theorem agg55 : aggB Tryz.prog 55 = some false := by simp [aggB, Tryz.underlying55]
attribute [go_sem] Tryz.underlying55 tsz55 tby55 tz55 agg55
-- t 56 func([]gangwaylaw23.Op, gangwaylaw23.Copy, []uint8) bool
theorem tsz56 : tsz Tryz.prog 56 = some 1 := by kernel_rfl
theorem tby56 : tby Tryz.prog 56 = some 8 := by kernel_rfl
theorem tz56 : tzero Tryz.prog 56 = some (.nilFunc) := by kernel_rfl
theorem agg56 : aggB Tryz.prog 56 = some false := by simp [aggB, Tryz.underlying56]
attribute [go_sem] Tryz.underlying56 tsz56 tby56 tz56 agg56
-- t 57 func() int
theorem tsz57 : tsz Tryz.prog 57 = some 1 := by kernel_rfl
theorem tby57 : tby Tryz.prog 57 = some 8 := by kernel_rfl
theorem tz57 : tzero Tryz.prog 57 = some (.nilFunc) := by kernel_rfl
theorem agg57 : aggB Tryz.prog 57 = some false := by simp [aggB, Tryz.underlying57]
attribute [go_sem] Tryz.underlying57 tsz57 tby57 tz57 agg57
-- t 58 func([]gangwaylaw23.Op, string, int) bool
theorem tsz58 : tsz Tryz.prog 58 = some 1 := by kernel_rfl
theorem tby58 : tby Tryz.prog 58 = some 8 := by kernel_rfl
theorem tz58 : tzero Tryz.prog 58 = some (.nilFunc) := by kernel_rfl
theorem agg58 : aggB Tryz.prog 58 = some false := by simp [aggB, Tryz.underlying58]
attribute [go_sem] Tryz.underlying58 tsz58 tby58 tz58 agg58
-- t 59 struct ( Dir bool; Who string; Path string; Mode int; Data []uint8 )
theorem tsz59 : tsz Tryz.prog 59 = some 5 := by kernel_rfl
theorem tby59 : tby Tryz.prog 59 = some 72 := by kernel_rfl
theorem tz59 : tzero Tryz.prog 59 = some (.agg #[.bool false, .string ⟨#[]⟩, .string ⟨#[]⟩, .int .i64 0, .slice none 0 0]) := by kernel_rfl
theorem agg59 : aggB Tryz.prog 59 = some true := by simp [aggB, Tryz.underlying59]
attribute [go_sem] Tryz.underlying59 tsz59 tby59 tz59 agg59
-- t 60 gangwaylaw23.Op = gangway/gangwaylaw23.Op
theorem tsz60 : tsz Tryz.prog 60 = some 5 := by kernel_rfl
theorem tby60 : tby Tryz.prog 60 = some 72 := by kernel_rfl
theorem tz60 : tzero Tryz.prog 60 = some (.agg #[.bool false, .string ⟨#[]⟩, .string ⟨#[]⟩, .int .i64 0, .slice none 0 0]) := by kernel_rfl
theorem agg60 : aggB Tryz.prog 60 = some true := by simp [aggB, Tryz.underlying60]
attribute [go_sem] Tryz.underlying60 tsz60 tby60 tz60 agg60
-- t 61 func() *tree.Tree
theorem tsz61 : tsz Tryz.prog 61 = some 1 := by kernel_rfl
theorem tby61 : tby Tryz.prog 61 = some 8 := by kernel_rfl
theorem tz61 : tzero Tryz.prog 61 = some (.nilFunc) := by kernel_rfl
theorem agg61 : aggB Tryz.prog 61 = some false := by simp [aggB, Tryz.underlying61]
attribute [go_sem] Tryz.underlying61 tsz61 tby61 tz61 agg61
-- t 62 func() *gangwayref19.Tree
theorem tsz62 : tsz Tryz.prog 62 = some 1 := by kernel_rfl
theorem tby62 : tby Tryz.prog 62 = some 8 := by kernel_rfl
theorem tz62 : tzero Tryz.prog 62 = some (.nilFunc) := by kernel_rfl
theorem agg62 : aggB Tryz.prog 62 = some false := by simp [aggB, Tryz.underlying62]
attribute [go_sem] Tryz.underlying62 tsz62 tby62 tz62 agg62
-- t 63 func(string, string, int) api.Errno
theorem tsz63 : tsz Tryz.prog 63 = some 1 := by kernel_rfl
theorem tby63 : tby Tryz.prog 63 = some 8 := by kernel_rfl
theorem tz63 : tzero Tryz.prog 63 = some (.nilFunc) := by kernel_rfl
theorem agg63 : aggB Tryz.prog 63 = some false := by simp [aggB, Tryz.underlying63]
attribute [go_sem] Tryz.underlying63 tsz63 tby63 tz63 agg63
-- t 64 func(string, string, int) int
theorem tsz64 : tsz Tryz.prog 64 = some 1 := by kernel_rfl
theorem tby64 : tby Tryz.prog 64 = some 8 := by kernel_rfl
theorem tz64 : tzero Tryz.prog 64 = some (.nilFunc) := by kernel_rfl
theorem agg64 : aggB Tryz.prog 64 = some false := by simp [aggB, Tryz.underlying64]
attribute [go_sem] Tryz.underlying64 tsz64 tby64 tz64 agg64
-- t 65 func(string, string, []uint8, int) api.Errno
theorem tsz65 : tsz Tryz.prog 65 = some 1 := by kernel_rfl
theorem tby65 : tby Tryz.prog 65 = some 8 := by kernel_rfl
theorem tz65 : tzero Tryz.prog 65 = some (.nilFunc) := by kernel_rfl
theorem agg65 : aggB Tryz.prog 65 = some false := by simp [aggB, Tryz.underlying65]
attribute [go_sem] Tryz.underlying65 tsz65 tby65 tz65 agg65
-- t 66 func(string, string, []uint8, int) int
theorem tsz66 : tsz Tryz.prog 66 = some 1 := by kernel_rfl
theorem tby66 : tby Tryz.prog 66 = some 8 := by kernel_rfl
theorem tz66 : tzero Tryz.prog 66 = some (.nilFunc) := by kernel_rfl
theorem agg66 : aggB Tryz.prog 66 = some false := by simp [aggB, Tryz.underlying66]
attribute [go_sem] Tryz.underlying66 tsz66 tby66 tz66 agg66
-- t 67 func(*tree.Tree, string, api.Node) ([]uint8, api.Errno)
theorem tsz67 : tsz Tryz.prog 67 = some 1 := by kernel_rfl
theorem tby67 : tby Tryz.prog 67 = some 8 := by kernel_rfl
theorem tz67 : tzero Tryz.prog 67 = some (.nilFunc) := by kernel_rfl
theorem agg67 : aggB Tryz.prog 67 = some false := by simp [aggB, Tryz.underlying67]
attribute [go_sem] Tryz.underlying67 tsz67 tby67 tz67 agg67
-- t 69 func(string, string) (api.Node, int)
theorem tsz69 : tsz Tryz.prog 69 = some 1 := by kernel_rfl
theorem tby69 : tby Tryz.prog 69 = some 8 := by kernel_rfl
theorem tz69 : tzero Tryz.prog 69 = some (.nilFunc) := by kernel_rfl
theorem agg69 : aggB Tryz.prog 69 = some false := by simp [aggB, Tryz.underlying69]
attribute [go_sem] Tryz.underlying69 tsz69 tby69 tz69 agg69
-- t 70 func(*gangwayref19.Tree, string, api.Node) (string, int)
theorem tsz70 : tsz Tryz.prog 70 = some 1 := by kernel_rfl
theorem tby70 : tby Tryz.prog 70 = some 8 := by kernel_rfl
theorem tz70 : tzero Tryz.prog 70 = some (.nilFunc) := by kernel_rfl
theorem agg70 : aggB Tryz.prog 70 = some false := by simp [aggB, Tryz.underlying70]
attribute [go_sem] Tryz.underlying70 tsz70 tby70 tz70 agg70
-- t 71 []string
theorem tsz71 : tsz Tryz.prog 71 = some 1 := by kernel_rfl
theorem tby71 : tby Tryz.prog 71 = some 24 := by kernel_rfl
theorem tz71 : tzero Tryz.prog 71 = some (.slice none 0 0) := by kernel_rfl
theorem agg71 : aggB Tryz.prog 71 = some false := by simp [aggB, Tryz.underlying71]
theorem nI71 : noInt Tryz.prog 71 = true := by simp [noInt, Tryz.underlying71]
attribute [go_sem] Tryz.underlying71 tsz71 tby71 tz71 agg71 nI71
-- t 72 func(iter.Seq[string]) []string
theorem tsz72 : tsz Tryz.prog 72 = some 1 := by kernel_rfl
theorem tby72 : tby Tryz.prog 72 = some 8 := by kernel_rfl
theorem tz72 : tzero Tryz.prog 72 = some (.nilFunc) := by kernel_rfl
theorem agg72 : aggB Tryz.prog 72 = some false := by simp [aggB, Tryz.underlying72]
attribute [go_sem] Tryz.underlying72 tsz72 tby72 tz72 agg72
-- t 73 func(func(string) bool)
theorem tsz73 : tsz Tryz.prog 73 = some 1 := by kernel_rfl
theorem tby73 : tby Tryz.prog 73 = some 8 := by kernel_rfl
theorem tz73 : tzero Tryz.prog 73 = some (.nilFunc) := by kernel_rfl
theorem agg73 : aggB Tryz.prog 73 = some false := by simp [aggB, Tryz.underlying73]
attribute [go_sem] Tryz.underlying73 tsz73 tby73 tz73 agg73
-- t 74 iter.Seq[string]
theorem tsz74 : tsz Tryz.prog 74 = some 1 := by kernel_rfl
theorem tby74 : tby Tryz.prog 74 = some 8 := by kernel_rfl
theorem tz74 : tzero Tryz.prog 74 = some (.nilFunc) := by kernel_rfl
theorem agg74 : aggB Tryz.prog 74 = some false := by simp [aggB, Tryz.underlying74]
attribute [go_sem] Tryz.underlying74 tsz74 tby74 tz74 agg74
-- t 75 func(map[string]*api.Node) iter.Seq[string]
theorem tsz75 : tsz Tryz.prog 75 = some 1 := by kernel_rfl
theorem tby75 : tby Tryz.prog 75 = some 8 := by kernel_rfl
theorem tz75 : tzero Tryz.prog 75 = some (.nilFunc) := by kernel_rfl
theorem agg75 : aggB Tryz.prog 75 = some false := by simp [aggB, Tryz.underlying75]
attribute [go_sem] Tryz.underlying75 tsz75 tby75 tz75 agg75
-- t 76 map[string]*api.Node
theorem tsz76 : tsz Tryz.prog 76 = some 1 := by kernel_rfl
theorem tby76 : tby Tryz.prog 76 = some 8 := by kernel_rfl
theorem tz76 : tzero Tryz.prog 76 = some (.map none) := by kernel_rfl
theorem agg76 : aggB Tryz.prog 76 = some false := by simp [aggB, Tryz.underlying76]
attribute [go_sem] Tryz.underlying76 tsz76 tby76 tz76 agg76
-- t 77 *api.Node
theorem tsz77 : tsz Tryz.prog 77 = some 1 := by kernel_rfl
theorem tby77 : tby Tryz.prog 77 = some 8 := by kernel_rfl
theorem tz77 : tzero Tryz.prog 77 = some (.pointer none) := by kernel_rfl
theorem agg77 : aggB Tryz.prog 77 = some false := by simp [aggB, Tryz.underlying77]
attribute [go_sem] Tryz.underlying77 tsz77 tby77 tz77 agg77
-- t 78 struct ( nodes map[string]*api.Node )
theorem tsz78 : tsz Tryz.prog 78 = some 1 := by kernel_rfl
theorem tby78 : tby Tryz.prog 78 = some 8 := by kernel_rfl
theorem tz78 : tzero Tryz.prog 78 = some (.agg #[.map none]) := by kernel_rfl
theorem agg78 : aggB Tryz.prog 78 = some true := by simp [aggB, Tryz.underlying78]
attribute [go_sem] Tryz.underlying78 tsz78 tby78 tz78 agg78
-- t 79 tree.Tree = gangway/tree.Tree
theorem tsz79 : tsz Tryz.prog 79 = some 1 := by kernel_rfl
theorem tby79 : tby Tryz.prog 79 = some 8 := by kernel_rfl
theorem tz79 : tzero Tryz.prog 79 = some (.agg #[.map none]) := by kernel_rfl
theorem agg79 : aggB Tryz.prog 79 = some true := by simp [aggB, Tryz.underlying79]
attribute [go_sem] Tryz.underlying79 tsz79 tby79 tz79 agg79
-- t 80 func(*api.Node) api.Node
theorem tsz80 : tsz Tryz.prog 80 = some 1 := by kernel_rfl
theorem tby80 : tby Tryz.prog 80 = some 8 := by kernel_rfl
theorem tz80 : tzero Tryz.prog 80 = some (.nilFunc) := by kernel_rfl
theorem agg80 : aggB Tryz.prog 80 = some false := by simp [aggB, Tryz.underlying80]
attribute [go_sem] Tryz.underlying80 tsz80 tby80 tz80 agg80
-- t 81 *rcp.item
theorem tsz81 : tsz Tryz.prog 81 = some 1 := by kernel_rfl
theorem tby81 : tby Tryz.prog 81 = some 8 := by kernel_rfl
theorem tz81 : tzero Tryz.prog 81 = some (.pointer none) := by kernel_rfl
theorem agg81 : aggB Tryz.prog 81 = some false := by simp [aggB, Tryz.underlying81]
attribute [go_sem] Tryz.underlying81 tsz81 tby81 tz81 agg81
-- t 82 struct ( tree *tree.Tree; who string; path string; modes bool; begun bool; within bool; over bool; dirs []string; file *rcp.item; target string; rest []uint8; made int; broken api.Errno )
theorem tsz82 : tsz Tryz.prog 82 = some 13 := by kernel_rfl
theorem tby82 : tby Tryz.prog 82 = some 136 := by kernel_rfl
theorem tz82 : tzero Tryz.prog 82 = some (.agg #[.pointer none, .string ⟨#[]⟩, .string ⟨#[]⟩, .bool false, .bool false, .bool false, .bool false, .slice none 0 0, .pointer none, .string ⟨#[]⟩, .slice none 0 0, .int .i64 0, .int .i64 0]) := by kernel_rfl
theorem agg82 : aggB Tryz.prog 82 = some true := by simp [aggB, Tryz.underlying82]
attribute [go_sem] Tryz.underlying82 tsz82 tby82 tz82 agg82
-- t 83 rcp.Sink = gangway/rcp.Sink
theorem tsz83 : tsz Tryz.prog 83 = some 13 := by kernel_rfl
theorem tby83 : tby Tryz.prog 83 = some 136 := by kernel_rfl
theorem tz83 : tzero Tryz.prog 83 = some (.agg #[.pointer none, .string ⟨#[]⟩, .string ⟨#[]⟩, .bool false, .bool false, .bool false, .bool false, .slice none 0 0, .pointer none, .string ⟨#[]⟩, .slice none 0 0, .int .i64 0, .int .i64 0]) := by kernel_rfl
theorem agg83 : aggB Tryz.prog 83 = some true := by simp [aggB, Tryz.underlying83]
attribute [go_sem] Tryz.underlying83 tsz83 tby83 tz83 agg83
-- t 85 func(string, string) (*api.Node, api.Errno)
theorem tsz85 : tsz Tryz.prog 85 = some 1 := by kernel_rfl
theorem tby85 : tby Tryz.prog 85 = some 8 := by kernel_rfl
theorem tz85 : tzero Tryz.prog 85 = some (.nilFunc) := by kernel_rfl
theorem agg85 : aggB Tryz.prog 85 = some false := by simp [aggB, Tryz.underlying85]
attribute [go_sem] Tryz.underlying85 tsz85 tby85 tz85 agg85
-- t 86 func([]uint8) []uint8
theorem tsz86 : tsz Tryz.prog 86 = some 1 := by kernel_rfl
theorem tby86 : tby Tryz.prog 86 = some 8 := by kernel_rfl
theorem tz86 : tzero Tryz.prog 86 = some (.nilFunc) := by kernel_rfl
theorem agg86 : aggB Tryz.prog 86 = some false := by simp [aggB, Tryz.underlying86]
attribute [go_sem] Tryz.underlying86 tsz86 tby86 tz86 agg86
-- t 87 func(int) bool
theorem tsz87 : tsz Tryz.prog 87 = some 1 := by kernel_rfl
theorem tby87 : tby Tryz.prog 87 = some 8 := by kernel_rfl
theorem tz87 : tzero Tryz.prog 87 = some (.nilFunc) := by kernel_rfl
theorem agg87 : aggB Tryz.prog 87 = some false := by simp [aggB, Tryz.underlying87]
attribute [go_sem] Tryz.underlying87 tsz87 tby87 tz87 agg87
-- t 88 func(api.Node) api.Errno
theorem tsz88 : tsz Tryz.prog 88 = some 1 := by kernel_rfl
theorem tby88 : tby Tryz.prog 88 = some 8 := by kernel_rfl
theorem tz88 : tzero Tryz.prog 88 = some (.nilFunc) := by kernel_rfl
theorem agg88 : aggB Tryz.prog 88 = some false := by simp [aggB, Tryz.underlying88]
attribute [go_sem] Tryz.underlying88 tsz88 tby88 tz88 agg88
-- t 89 func(string, string) int
theorem tsz89 : tsz Tryz.prog 89 = some 1 := by kernel_rfl
theorem tby89 : tby Tryz.prog 89 = some 8 := by kernel_rfl
theorem tz89 : tzero Tryz.prog 89 = some (.nilFunc) := by kernel_rfl
theorem agg89 : aggB Tryz.prog 89 = some false := by simp [aggB, Tryz.underlying89]
attribute [go_sem] Tryz.underlying89 tsz89 tby89 tz89 agg89
-- t 90 func(string) int
theorem tsz90 : tsz Tryz.prog 90 = some 1 := by kernel_rfl
theorem tby90 : tby Tryz.prog 90 = some 8 := by kernel_rfl
theorem tz90 : tzero Tryz.prog 90 = some (.nilFunc) := by kernel_rfl
theorem agg90 : aggB Tryz.prog 90 = some false := by simp [aggB, Tryz.underlying90]
attribute [go_sem] Tryz.underlying90 tsz90 tby90 tz90 agg90
-- t 91 func(api.Node) int
theorem tsz91 : tsz Tryz.prog 91 = some 1 := by kernel_rfl
theorem tby91 : tby Tryz.prog 91 = some 8 := by kernel_rfl
theorem tz91 : tzero Tryz.prog 91 = some (.nilFunc) := by kernel_rfl
theorem agg91 : aggB Tryz.prog 91 = some false := by simp [aggB, Tryz.underlying91]
attribute [go_sem] Tryz.underlying91 tsz91 tby91 tz91 agg91
-- t 92 func(string, *api.Node, int) bool
theorem tsz92 : tsz Tryz.prog 92 = some 1 := by kernel_rfl
theorem tby92 : tby Tryz.prog 92 = some 8 := by kernel_rfl
theorem tz92 : tzero Tryz.prog 92 = some (.nilFunc) := by kernel_rfl
theorem agg92 : aggB Tryz.prog 92 = some false := by simp [aggB, Tryz.underlying92]
attribute [go_sem] Tryz.underlying92 tsz92 tby92 tz92 agg92
-- t 93 func(string, uint8) int
theorem tsz93 : tsz Tryz.prog 93 = some 1 := by kernel_rfl
theorem tby93 : tby Tryz.prog 93 = some 8 := by kernel_rfl
theorem tz93 : tzero Tryz.prog 93 = some (.nilFunc) := by kernel_rfl
theorem agg93 : aggB Tryz.prog 93 = some false := by simp [aggB, Tryz.underlying93]
attribute [go_sem] Tryz.underlying93 tsz93 tby93 tz93 agg93
-- t 94 func(string, string) ([]uint8, api.Errno)
theorem tsz94 : tsz Tryz.prog 94 = some 1 := by kernel_rfl
theorem tby94 : tby Tryz.prog 94 = some 8 := by kernel_rfl
theorem tz94 : tzero Tryz.prog 94 = some (.nilFunc) := by kernel_rfl
theorem agg94 : aggB Tryz.prog 94 = some false := by simp [aggB, Tryz.underlying94]
attribute [go_sem] Tryz.underlying94 tsz94 tby94 tz94 agg94
-- t 95 func(uint8, int, int, string) []uint8
theorem tsz95 : tsz Tryz.prog 95 = some 1 := by kernel_rfl
theorem tby95 : tby Tryz.prog 95 = some 8 := by kernel_rfl
theorem tz95 : tzero Tryz.prog 95 = some (.nilFunc) := by kernel_rfl
theorem agg95 : aggB Tryz.prog 95 = some false := by simp [aggB, Tryz.underlying95]
attribute [go_sem] Tryz.underlying95 tsz95 tby95 tz95 agg95
-- t 97 func(string, string) ([]string, api.Errno)
theorem tsz97 : tsz Tryz.prog 97 = some 1 := by kernel_rfl
theorem tby97 : tby Tryz.prog 97 = some 8 := by kernel_rfl
theorem tz97 : tzero Tryz.prog 97 = some (.nilFunc) := by kernel_rfl
theorem agg97 : aggB Tryz.prog 97 = some false := by simp [aggB, Tryz.underlying97]
attribute [go_sem] Tryz.underlying97 tsz97 tby97 tz97 agg97
-- t 98 func(string, string) string
theorem tsz98 : tsz Tryz.prog 98 = some 1 := by kernel_rfl
theorem tby98 : tby Tryz.prog 98 = some 8 := by kernel_rfl
theorem tz98 : tzero Tryz.prog 98 = some (.nilFunc) := by kernel_rfl
theorem agg98 : aggB Tryz.prog 98 = some false := by simp [aggB, Tryz.underlying98]
attribute [go_sem] Tryz.underlying98 tsz98 tby98 tz98 agg98
-- t 100 func(string, string) (int, int)
theorem tsz100 : tsz Tryz.prog 100 = some 1 := by kernel_rfl
theorem tby100 : tby Tryz.prog 100 = some 8 := by kernel_rfl
theorem tz100 : tzero Tryz.prog 100 = some (.nilFunc) := by kernel_rfl
theorem agg100 : aggB Tryz.prog 100 = some false := by simp [aggB, Tryz.underlying100]
attribute [go_sem] Tryz.underlying100 tsz100 tby100 tz100 agg100
-- t 102 func(string, string) ([]uint8, int)
theorem tsz102 : tsz Tryz.prog 102 = some 1 := by kernel_rfl
theorem tby102 : tby Tryz.prog 102 = some 8 := by kernel_rfl
theorem tz102 : tzero Tryz.prog 102 = some (.nilFunc) := by kernel_rfl
theorem agg102 : aggB Tryz.prog 102 = some false := by simp [aggB, Tryz.underlying102]
attribute [go_sem] Tryz.underlying102 tsz102 tby102 tz102 agg102
-- t 103 func(string, int, int, string) string
theorem tsz103 : tsz Tryz.prog 103 = some 1 := by kernel_rfl
theorem tby103 : tby Tryz.prog 103 = some 8 := by kernel_rfl
theorem tz103 : tzero Tryz.prog 103 = some (.nilFunc) := by kernel_rfl
theorem agg103 : aggB Tryz.prog 103 = some false := by simp [aggB, Tryz.underlying103]
attribute [go_sem] Tryz.underlying103 tsz103 tby103 tz103 agg103
-- t 104 func(string) string
theorem tsz104 : tsz Tryz.prog 104 = some 1 := by kernel_rfl
theorem tby104 : tby Tryz.prog 104 = some 8 := by kernel_rfl
theorem tz104 : tzero Tryz.prog 104 = some (.nilFunc) := by kernel_rfl
theorem agg104 : aggB Tryz.prog 104 = some false := by simp [aggB, Tryz.underlying104]
attribute [go_sem] Tryz.underlying104 tsz104 tby104 tz104 agg104
-- t 106 func(string, string) ([]string, int)
theorem tsz106 : tsz Tryz.prog 106 = some 1 := by kernel_rfl
theorem tby106 : tby Tryz.prog 106 = some 8 := by kernel_rfl
theorem tz106 : tzero Tryz.prog 106 = some (.nilFunc) := by kernel_rfl
theorem agg106 : aggB Tryz.prog 106 = some false := by simp [aggB, Tryz.underlying106]
attribute [go_sem] Tryz.underlying106 tsz106 tby106 tz106 agg106
-- t 107 func([]string)
theorem tsz107 : tsz Tryz.prog 107 = some 1 := by kernel_rfl
theorem tby107 : tby Tryz.prog 107 = some 8 := by kernel_rfl
theorem tz107 : tzero Tryz.prog 107 = some (.nilFunc) := by kernel_rfl
theorem agg107 : aggB Tryz.prog 107 = some false := by simp [aggB, Tryz.underlying107]
attribute [go_sem] Tryz.underlying107 tsz107 tby107 tz107 agg107
-- t 108 func(string) bool
theorem tsz108 : tsz Tryz.prog 108 = some 1 := by kernel_rfl
theorem tby108 : tby Tryz.prog 108 = some 8 := by kernel_rfl
theorem tz108 : tzero Tryz.prog 108 = some (.nilFunc) := by kernel_rfl
theorem agg108 : aggB Tryz.prog 108 = some false := by simp [aggB, Tryz.underlying108]
attribute [go_sem] Tryz.underlying108 tsz108 tby108 tz108 agg108
-- t 109 struct ( letter uint8; mode int; size int; name string )
theorem tsz109 : tsz Tryz.prog 109 = some 4 := by kernel_rfl
theorem tby109 : tby Tryz.prog 109 = some 40 := by kernel_rfl
theorem tz109 : tzero Tryz.prog 109 = some (.agg #[.int .u8 0, .int .i64 0, .int .i64 0, .string ⟨#[]⟩]) := by kernel_rfl
theorem agg109 : aggB Tryz.prog 109 = some true := by simp [aggB, Tryz.underlying109]
attribute [go_sem] Tryz.underlying109 tsz109 tby109 tz109 agg109
-- t 110 rcp.item = gangway/rcp.item
theorem tsz110 : tsz Tryz.prog 110 = some 4 := by kernel_rfl
theorem tby110 : tby Tryz.prog 110 = some 40 := by kernel_rfl
theorem tz110 : tzero Tryz.prog 110 = some (.agg #[.int .u8 0, .int .i64 0, .int .i64 0, .string ⟨#[]⟩]) := by kernel_rfl
theorem agg110 : aggB Tryz.prog 110 = some true := by simp [aggB, Tryz.underlying110]
attribute [go_sem] Tryz.underlying110 tsz110 tby110 tz110 agg110
-- t 111 func([]uint8, uint8) int
theorem tsz111 : tsz Tryz.prog 111 = some 1 := by kernel_rfl
theorem tby111 : tby Tryz.prog 111 = some 8 := by kernel_rfl
theorem tz111 : tzero Tryz.prog 111 = some (.nilFunc) := by kernel_rfl
theorem agg111 : aggB Tryz.prog 111 = some false := by simp [aggB, Tryz.underlying111]
attribute [go_sem] Tryz.underlying111 tsz111 tby111 tz111 agg111
-- t 112 func(string) api.Errno
theorem tsz112 : tsz Tryz.prog 112 = some 1 := by kernel_rfl
theorem tby112 : tby Tryz.prog 112 = some 8 := by kernel_rfl
theorem tz112 : tzero Tryz.prog 112 = some (.nilFunc) := by kernel_rfl
theorem agg112 : aggB Tryz.prog 112 = some false := by simp [aggB, Tryz.underlying112]
attribute [go_sem] Tryz.underlying112 tsz112 tby112 tz112 agg112
-- t 114 uint
theorem tsz114 : tsz Tryz.prog 114 = some 1 := by kernel_rfl
theorem tby114 : tby Tryz.prog 114 = some 8 := by kernel_rfl
theorem tz114 : tzero Tryz.prog 114 = some (.int .u64 0) := by kernel_rfl
theorem agg114 : aggB Tryz.prog 114 = some false := by simp [aggB, Tryz.underlying114]
attribute [go_sem] Tryz.underlying114 tsz114 tby114 tz114 agg114
-- t 115 func([]uint8, int64, int) []uint8
theorem tsz115 : tsz Tryz.prog 115 = some 1 := by kernel_rfl
theorem tby115 : tby Tryz.prog 115 = some 8 := by kernel_rfl
theorem tz115 : tzero Tryz.prog 115 = some (.nilFunc) := by kernel_rfl
theorem agg115 : aggB Tryz.prog 115 = some false := by simp [aggB, Tryz.underlying115]
attribute [go_sem] Tryz.underlying115 tsz115 tby115 tz115 agg115
-- t 116 func(string) []string
theorem tsz116 : tsz Tryz.prog 116 = some 1 := by kernel_rfl
theorem tby116 : tby Tryz.prog 116 = some 8 := by kernel_rfl
theorem tz116 : tzero Tryz.prog 116 = some (.nilFunc) := by kernel_rfl
theorem agg116 : aggB Tryz.prog 116 = some false := by simp [aggB, Tryz.underlying116]
attribute [go_sem] Tryz.underlying116 tsz116 tby116 tz116 agg116
-- t 117 func(int) string
theorem tsz117 : tsz Tryz.prog 117 = some 1 := by kernel_rfl
theorem tby117 : tby Tryz.prog 117 = some 8 := by kernel_rfl
theorem tz117 : tzero Tryz.prog 117 = some (.nilFunc) := by kernel_rfl
theorem agg117 : aggB Tryz.prog 117 = some false := by simp [aggB, Tryz.underlying117]
attribute [go_sem] Tryz.underlying117 tsz117 tby117 tz117 agg117
-- t 118 func([]string, iter.Seq[string]) []string
theorem tsz118 : tsz Tryz.prog 118 = some 1 := by kernel_rfl
theorem tby118 : tby Tryz.prog 118 = some 8 := by kernel_rfl
theorem tz118 : tzero Tryz.prog 118 = some (.nilFunc) := by kernel_rfl
theorem agg118 : aggB Tryz.prog 118 = some false := by simp [aggB, Tryz.underlying118]
attribute [go_sem] Tryz.underlying118 tsz118 tby118 tz118 agg118
-- t 119 func([]string, int, int, int)
theorem tsz119 : tsz Tryz.prog 119 = some 1 := by kernel_rfl
theorem tby119 : tby Tryz.prog 119 = some 8 := by kernel_rfl
theorem tz119 : tzero Tryz.prog 119 = some (.nilFunc) := by kernel_rfl
theorem agg119 : aggB Tryz.prog 119 = some false := by simp [aggB, Tryz.underlying119]
attribute [go_sem] Tryz.underlying119 tsz119 tby119 tz119 agg119
-- t 120 func(uint) int
theorem tsz120 : tsz Tryz.prog 120 = some 1 := by kernel_rfl
theorem tby120 : tby Tryz.prog 120 = some 8 := by kernel_rfl
theorem tz120 : tzero Tryz.prog 120 = some (.nilFunc) := by kernel_rfl
theorem agg120 : aggB Tryz.prog 120 = some false := by simp [aggB, Tryz.underlying120]
attribute [go_sem] Tryz.underlying120 tsz120 tby120 tz120 agg120
-- t 121 func(rcp.item, int) int
theorem tsz121 : tsz Tryz.prog 121 = some 1 := by kernel_rfl
theorem tby121 : tby Tryz.prog 121 = some 8 := by kernel_rfl
theorem tz121 : tzero Tryz.prog 121 = some (.nilFunc) := by kernel_rfl
theorem agg121 : aggB Tryz.prog 121 = some false := by simp [aggB, Tryz.underlying121]
attribute [go_sem] Tryz.underlying121 tsz121 tby121 tz121 agg121
-- t 123 func(string) (rcp.item, bool)
theorem tsz123 : tsz Tryz.prog 123 = some 1 := by kernel_rfl
theorem tby123 : tby Tryz.prog 123 = some 8 := by kernel_rfl
theorem tz123 : tzero Tryz.prog 123 = some (.nilFunc) := by kernel_rfl
theorem agg123 : aggB Tryz.prog 123 = some false := by simp [aggB, Tryz.underlying123]
attribute [go_sem] Tryz.underlying123 tsz123 tby123 tz123 agg123
-- t 124 func(rcp.item) api.Errno
theorem tsz124 : tsz Tryz.prog 124 = some 1 := by kernel_rfl
theorem tby124 : tby Tryz.prog 124 = some 8 := by kernel_rfl
theorem tz124 : tzero Tryz.prog 124 = some (.nilFunc) := by kernel_rfl
theorem agg124 : aggB Tryz.prog 124 = some false := by simp [aggB, Tryz.underlying124]
attribute [go_sem] Tryz.underlying124 tsz124 tby124 tz124 agg124
-- t 126 func(string, string) (string, bool)
theorem tsz126 : tsz Tryz.prog 126 = some 1 := by kernel_rfl
theorem tby126 : tby Tryz.prog 126 = some 8 := by kernel_rfl
theorem tz126 : tzero Tryz.prog 126 = some (.nilFunc) := by kernel_rfl
theorem agg126 : aggB Tryz.prog 126 = some false := by simp [aggB, Tryz.underlying126]
attribute [go_sem] Tryz.underlying126 tsz126 tby126 tz126 agg126
-- t 127 func(string, string) []string
theorem tsz127 : tsz Tryz.prog 127 = some 1 := by kernel_rfl
theorem tby127 : tby Tryz.prog 127 = some 8 := by kernel_rfl
theorem tz127 : tzero Tryz.prog 127 = some (.nilFunc) := by kernel_rfl
theorem agg127 : aggB Tryz.prog 127 = some false := by simp [aggB, Tryz.underlying127]
attribute [go_sem] Tryz.underlying127 tsz127 tby127 tz127 agg127
-- t 128 func([]string, func(string) bool) bool
theorem tsz128 : tsz Tryz.prog 128 = some 1 := by kernel_rfl
theorem tby128 : tby Tryz.prog 128 = some 8 := by kernel_rfl
theorem tz128 : tzero Tryz.prog 128 = some (.nilFunc) := by kernel_rfl
theorem agg128 : aggB Tryz.prog 128 = some false := by simp [aggB, Tryz.underlying128]
attribute [go_sem] Tryz.underlying128 tsz128 tby128 tz128 agg128
-- t 129 func(string, uint8) []string
theorem tsz129 : tsz Tryz.prog 129 = some 1 := by kernel_rfl
theorem tby129 : tby Tryz.prog 129 = some 8 := by kernel_rfl
theorem tz129 : tzero Tryz.prog 129 = some (.nilFunc) := by kernel_rfl
theorem agg129 : aggB Tryz.prog 129 = some false := by simp [aggB, Tryz.underlying129]
attribute [go_sem] Tryz.underlying129 tsz129 tby129 tz129 agg129
-- t 130 func([]string, int, int)
theorem tsz130 : tsz Tryz.prog 130 = some 1 := by kernel_rfl
theorem tby130 : tby Tryz.prog 130 = some 8 := by kernel_rfl
theorem tz130 : tzero Tryz.prog 130 = some (.nilFunc) := by kernel_rfl
theorem agg130 : aggB Tryz.prog 130 = some false := by simp [aggB, Tryz.underlying130]
attribute [go_sem] Tryz.underlying130 tsz130 tby130 tz130 agg130
-- t 131 slices.sortedHint
theorem tsz131 : tsz Tryz.prog 131 = some 1 := by kernel_rfl
theorem tby131 : tby Tryz.prog 131 = some 8 := by kernel_rfl
theorem tz131 : tzero Tryz.prog 131 = some (.int .i64 0) := by kernel_rfl
theorem agg131 : aggB Tryz.prog 131 = some false := by simp [aggB, Tryz.underlying131]
attribute [go_sem] Tryz.underlying131 tsz131 tby131 tz131 agg131
-- t 133 func([]string, int, int) (int, slices.sortedHint)
theorem tsz133 : tsz Tryz.prog 133 = some 1 := by kernel_rfl
theorem tby133 : tby Tryz.prog 133 = some 8 := by kernel_rfl
theorem tz133 : tzero Tryz.prog 133 = some (.nilFunc) := by kernel_rfl
theorem agg133 : aggB Tryz.prog 133 = some false := by simp [aggB, Tryz.underlying133]
attribute [go_sem] Tryz.underlying133 tsz133 tby133 tz133 agg133
-- t 134 func([]string, int, int) bool
theorem tsz134 : tsz Tryz.prog 134 = some 1 := by kernel_rfl
theorem tby134 : tby Tryz.prog 134 = some 8 := by kernel_rfl
theorem tz134 : tzero Tryz.prog 134 = some (.nilFunc) := by kernel_rfl
theorem agg134 : aggB Tryz.prog 134 = some false := by simp [aggB, Tryz.underlying134]
attribute [go_sem] Tryz.underlying134 tsz134 tby134 tz134 agg134
-- t 135 func([]string, int, int, int) int
theorem tsz135 : tsz Tryz.prog 135 = some 1 := by kernel_rfl
theorem tby135 : tby Tryz.prog 135 = some 8 := by kernel_rfl
theorem tz135 : tzero Tryz.prog 135 = some (.nilFunc) := by kernel_rfl
theorem agg135 : aggB Tryz.prog 135 = some false := by simp [aggB, Tryz.underlying135]
attribute [go_sem] Tryz.underlying135 tsz135 tby135 tz135 agg135
-- t 137 func([]string, int, int, int) (int, bool)
theorem tsz137 : tsz Tryz.prog 137 = some 1 := by kernel_rfl
theorem tby137 : tby Tryz.prog 137 = some 8 := by kernel_rfl
theorem tz137 : tzero Tryz.prog 137 = some (.nilFunc) := by kernel_rfl
theorem agg137 : aggB Tryz.prog 137 = some false := by simp [aggB, Tryz.underlying137]
attribute [go_sem] Tryz.underlying137 tsz137 tby137 tz137 agg137
-- t 138 func(uint32) int
theorem tsz138 : tsz Tryz.prog 138 = some 1 := by kernel_rfl
theorem tby138 : tby Tryz.prog 138 = some 8 := by kernel_rfl
theorem tz138 : tzero Tryz.prog 138 = some (.nilFunc) := by kernel_rfl
theorem agg138 : aggB Tryz.prog 138 = some false := by simp [aggB, Tryz.underlying138]
attribute [go_sem] Tryz.underlying138 tsz138 tby138 tz138 agg138
-- t 139 uint32
theorem tsz139 : tsz Tryz.prog 139 = some 1 := by kernel_rfl
theorem tby139 : tby Tryz.prog 139 = some 4 := by kernel_rfl
theorem tz139 : tzero Tryz.prog 139 = some (.int .u32 0) := by kernel_rfl
theorem agg139 : aggB Tryz.prog 139 = some false := by simp [aggB, Tryz.underlying139]
attribute [go_sem] Tryz.underlying139 tsz139 tby139 tz139 agg139
-- t 140 func(uint64) int
theorem tsz140 : tsz Tryz.prog 140 = some 1 := by kernel_rfl
theorem tby140 : tby Tryz.prog 140 = some 8 := by kernel_rfl
theorem tz140 : tzero Tryz.prog 140 = some (.nilFunc) := by kernel_rfl
theorem agg140 : aggB Tryz.prog 140 = some false := by simp [aggB, Tryz.underlying140]
attribute [go_sem] Tryz.underlying140 tsz140 tby140 tz140 agg140
-- t 141 uint64
theorem tsz141 : tsz Tryz.prog 141 = some 1 := by kernel_rfl
theorem tby141 : tby Tryz.prog 141 = some 8 := by kernel_rfl
theorem tz141 : tzero Tryz.prog 141 = some (.int .u64 0) := by kernel_rfl
theorem agg141 : aggB Tryz.prog 141 = some false := by simp [aggB, Tryz.underlying141]
attribute [go_sem] Tryz.underlying141 tsz141 tby141 tz141 agg141
-- t 142 interface ( Error() string )
theorem tsz142 : tsz Tryz.prog 142 = some 1 := by kernel_rfl
theorem tby142 : tby Tryz.prog 142 = some 16 := by kernel_rfl
theorem tz142 : tzero Tryz.prog 142 = some (.nilIface) := by kernel_rfl
theorem agg142 : aggB Tryz.prog 142 = some false := by simp [aggB, Tryz.underlying142]
attribute [go_sem] Tryz.underlying142 tsz142 tby142 tz142 agg142
-- t 143 error
theorem tsz143 : tsz Tryz.prog 143 = some 1 := by kernel_rfl
theorem tby143 : tby Tryz.prog 143 = some 16 := by kernel_rfl
theorem tz143 : tzero Tryz.prog 143 = some (.nilIface) := by kernel_rfl
theorem agg143 : aggB Tryz.prog 143 = some false := by simp [aggB, Tryz.underlying143]
attribute [go_sem] Tryz.underlying143 tsz143 tby143 tz143 agg143
-- t 145 func(string, int, int) (uint64, error)
theorem tsz145 : tsz Tryz.prog 145 = some 1 := by kernel_rfl
theorem tby145 : tby Tryz.prog 145 = some 8 := by kernel_rfl
theorem tz145 : tzero Tryz.prog 145 = some (.nilFunc) := by kernel_rfl
theorem agg145 : aggB Tryz.prog 145 = some false := by simp [aggB, Tryz.underlying145]
attribute [go_sem] Tryz.underlying145 tsz145 tby145 tz145 agg145
-- t 146 func(string, string, int, int) []string
theorem tsz146 : tsz Tryz.prog 146 = some 1 := by kernel_rfl
theorem tby146 : tby Tryz.prog 146 = some 8 := by kernel_rfl
theorem tz146 : tzero Tryz.prog 146 = some (.nilFunc) := by kernel_rfl
theorem agg146 : aggB Tryz.prog 146 = some false := by simp [aggB, Tryz.underlying146]
attribute [go_sem] Tryz.underlying146 tsz146 tby146 tz146 agg146
-- t 147 func([]string, func(string) bool) int
theorem tsz147 : tsz Tryz.prog 147 = some 1 := by kernel_rfl
theorem tby147 : tby Tryz.prog 147 = some 8 := by kernel_rfl
theorem tz147 : tzero Tryz.prog 147 = some (.nilFunc) := by kernel_rfl
theorem agg147 : aggB Tryz.prog 147 = some false := by simp [aggB, Tryz.underlying147]
attribute [go_sem] Tryz.underlying147 tsz147 tby147 tz147 agg147
-- t 148 func([]uint8, uint64, int) []uint8
theorem tsz148 : tsz Tryz.prog 148 = some 1 := by kernel_rfl
theorem tby148 : tby Tryz.prog 148 = some 8 := by kernel_rfl
theorem tz148 : tzero Tryz.prog 148 = some (.nilFunc) := by kernel_rfl
theorem agg148 : aggB Tryz.prog 148 = some false := by simp [aggB, Tryz.underlying148]
attribute [go_sem] Tryz.underlying148 tsz148 tby148 tz148 agg148
-- t 149 slices.xorshift
theorem tsz149 : tsz Tryz.prog 149 = some 1 := by kernel_rfl
theorem tby149 : tby Tryz.prog 149 = some 8 := by kernel_rfl
theorem tz149 : tzero Tryz.prog 149 = some (.int .u64 0) := by kernel_rfl
theorem agg149 : aggB Tryz.prog 149 = some false := by simp [aggB, Tryz.underlying149]
attribute [go_sem] Tryz.underlying149 tsz149 tby149 tz149 agg149
-- t 150 func(int) uint
theorem tsz150 : tsz Tryz.prog 150 = some 1 := by kernel_rfl
theorem tby150 : tby Tryz.prog 150 = some 8 := by kernel_rfl
theorem tz150 : tzero Tryz.prog 150 = some (.nilFunc) := by kernel_rfl
theorem agg150 : aggB Tryz.prog 150 = some false := by simp [aggB, Tryz.underlying150]
attribute [go_sem] Tryz.underlying150 tsz150 tby150 tz150 agg150
-- t 151 func() uint64
theorem tsz151 : tsz Tryz.prog 151 = some 1 := by kernel_rfl
theorem tby151 : tby Tryz.prog 151 = some 8 := by kernel_rfl
theorem tz151 : tzero Tryz.prog 151 = some (.nilFunc) := by kernel_rfl
theorem agg151 : aggB Tryz.prog 151 = some false := by simp [aggB, Tryz.underlying151]
attribute [go_sem] Tryz.underlying151 tsz151 tby151 tz151 agg151
-- t 152 func([]string, int, *int) int
theorem tsz152 : tsz Tryz.prog 152 = some 1 := by kernel_rfl
theorem tby152 : tby Tryz.prog 152 = some 8 := by kernel_rfl
theorem tz152 : tzero Tryz.prog 152 = some (.nilFunc) := by kernel_rfl
theorem agg152 : aggB Tryz.prog 152 = some false := by simp [aggB, Tryz.underlying152]
attribute [go_sem] Tryz.underlying152 tsz152 tby152 tz152 agg152
-- t 153 *int
theorem tsz153 : tsz Tryz.prog 153 = some 1 := by kernel_rfl
theorem tby153 : tby Tryz.prog 153 = some 8 := by kernel_rfl
theorem tz153 : tzero Tryz.prog 153 = some (.pointer none) := by kernel_rfl
theorem agg153 : aggB Tryz.prog 153 = some false := by simp [aggB, Tryz.underlying153]
attribute [go_sem] Tryz.underlying153 tsz153 tby153 tz153 agg153
-- t 154 func([]string, int, int, int, *int) int
theorem tsz154 : tsz Tryz.prog 154 = some 1 := by kernel_rfl
theorem tby154 : tby Tryz.prog 154 = some 8 := by kernel_rfl
theorem tz154 : tzero Tryz.prog 154 = some (.nilFunc) := by kernel_rfl
theorem agg154 : aggB Tryz.prog 154 = some false := by simp [aggB, Tryz.underlying154]
attribute [go_sem] Tryz.underlying154 tsz154 tby154 tz154 agg154
-- t 155 func(string, string, int, int, error) error
theorem tsz155 : tsz Tryz.prog 155 = some 1 := by kernel_rfl
theorem tby155 : tby Tryz.prog 155 = some 8 := by kernel_rfl
theorem tz155 : tzero Tryz.prog 155 = some (.nilFunc) := by kernel_rfl
theorem agg155 : aggB Tryz.prog 155 = some false := by simp [aggB, Tryz.underlying155]
attribute [go_sem] Tryz.underlying155 tsz155 tby155 tz155 agg155
-- t 156 func(string, uint8) string
theorem tsz156 : tsz Tryz.prog 156 = some 1 := by kernel_rfl
theorem tby156 : tby Tryz.prog 156 = some 8 := by kernel_rfl
theorem tz156 : tzero Tryz.prog 156 = some (.nilFunc) := by kernel_rfl
theorem agg156 : aggB Tryz.prog 156 = some false := by simp [aggB, Tryz.underlying156]
attribute [go_sem] Tryz.underlying156 tsz156 tby156 tz156 agg156
-- t 157 [256]bool
theorem tsz157 : tsz Tryz.prog 157 = some 256 := by kernel_rfl
theorem tby157 : tby Tryz.prog 157 = some 256 := by kernel_rfl
theorem agg157 : aggB Tryz.prog 157 = some true := by simp [aggB, Tryz.underlying157]
attribute [go_sem] Tryz.underlying157 tsz157 tby157 agg157
-- t 158 strings.asciiSet
theorem tsz158 : tsz Tryz.prog 158 = some 256 := by kernel_rfl
theorem tby158 : tby Tryz.prog 158 = some 256 := by kernel_rfl
theorem agg158 : aggB Tryz.prog 158 = some true := by simp [aggB, Tryz.underlying158]
attribute [go_sem] Tryz.underlying158 tsz158 tby158 agg158
-- t 160 func(string) (strings.asciiSet, bool)
theorem tsz160 : tsz Tryz.prog 160 = some 1 := by kernel_rfl
theorem tby160 : tby Tryz.prog 160 = some 8 := by kernel_rfl
theorem tz160 : tzero Tryz.prog 160 = some (.nilFunc) := by kernel_rfl
theorem agg160 : aggB Tryz.prog 160 = some false := by simp [aggB, Tryz.underlying160]
attribute [go_sem] Tryz.underlying160 tsz160 tby160 tz160 agg160
-- t 161 func(string, *strings.asciiSet) string
theorem tsz161 : tsz Tryz.prog 161 = some 1 := by kernel_rfl
theorem tby161 : tby Tryz.prog 161 = some 8 := by kernel_rfl
theorem tz161 : tzero Tryz.prog 161 = some (.nilFunc) := by kernel_rfl
theorem agg161 : aggB Tryz.prog 161 = some false := by simp [aggB, Tryz.underlying161]
attribute [go_sem] Tryz.underlying161 tsz161 tby161 tz161 agg161
-- t 162 *strings.asciiSet
theorem tsz162 : tsz Tryz.prog 162 = some 1 := by kernel_rfl
theorem tby162 : tby Tryz.prog 162 = some 8 := by kernel_rfl
theorem tz162 : tzero Tryz.prog 162 = some (.pointer none) := by kernel_rfl
theorem agg162 : aggB Tryz.prog 162 = some false := by simp [aggB, Tryz.underlying162]
attribute [go_sem] Tryz.underlying162 tsz162 tby162 tz162 agg162
-- t 163 func(string, int) []string
theorem tsz163 : tsz Tryz.prog 163 = some 1 := by kernel_rfl
theorem tby163 : tby Tryz.prog 163 = some 8 := by kernel_rfl
theorem tz163 : tzero Tryz.prog 163 = some (.nilFunc) := by kernel_rfl
theorem agg163 : aggB Tryz.prog 163 = some false := by simp [aggB, Tryz.underlying163]
attribute [go_sem] Tryz.underlying163 tsz163 tby163 tz163 agg163
-- t 164 [24]uint8
theorem tsz164 : tsz Tryz.prog 164 = some 24 := by kernel_rfl
theorem tby164 : tby Tryz.prog 164 = some 24 := by kernel_rfl
theorem agg164 : aggB Tryz.prog 164 = some true := by simp [aggB, Tryz.underlying164]
attribute [go_sem] Tryz.underlying164 tsz164 tby164 agg164
-- t 165 func([]uint8, uint64)
theorem tsz165 : tsz Tryz.prog 165 = some 1 := by kernel_rfl
theorem tby165 : tby Tryz.prog 165 = some 8 := by kernel_rfl
theorem tz165 : tzero Tryz.prog 165 = some (.nilFunc) := by kernel_rfl
theorem agg165 : aggB Tryz.prog 165 = some false := by simp [aggB, Tryz.underlying165]
attribute [go_sem] Tryz.underlying165 tsz165 tby165 tz165 agg165
-- t 167 func([]uint8, uint64, int, bool, bool) ([]uint8, string)
theorem tsz167 : tsz Tryz.prog 167 = some 1 := by kernel_rfl
theorem tby167 : tby Tryz.prog 167 = some 8 := by kernel_rfl
theorem tz167 : tzero Tryz.prog 167 = some (.nilFunc) := by kernel_rfl
theorem agg167 : aggB Tryz.prog 167 = some false := by simp [aggB, Tryz.underlying167]
attribute [go_sem] Tryz.underlying167 tsz167 tby167 tz167 agg167
-- t 168 *slices.xorshift
theorem tsz168 : tsz Tryz.prog 168 = some 1 := by kernel_rfl
theorem tby168 : tby Tryz.prog 168 = some 8 := by kernel_rfl
theorem tz168 : tzero Tryz.prog 168 = some (.pointer none) := by kernel_rfl
theorem agg168 : aggB Tryz.prog 168 = some false := by simp [aggB, Tryz.underlying168]
attribute [go_sem] Tryz.underlying168 tsz168 tby168 tz168 agg168
-- t 169 func([]string, int, int, *int) (int, int)
theorem tsz169 : tsz Tryz.prog 169 = some 1 := by kernel_rfl
theorem tby169 : tby Tryz.prog 169 = some 8 := by kernel_rfl
theorem tz169 : tzero Tryz.prog 169 = some (.nilFunc) := by kernel_rfl
theorem agg169 : aggB Tryz.prog 169 = some false := by simp [aggB, Tryz.underlying169]
attribute [go_sem] Tryz.underlying169 tsz169 tby169 tz169 agg169
-- t 170 strconv.Error = internal/strconv.Error
theorem tsz170 : tsz Tryz.prog 170 = some 1 := by kernel_rfl
theorem tby170 : tby Tryz.prog 170 = some 8 := by kernel_rfl
theorem tz170 : tzero Tryz.prog 170 = some (.int .i64 0) := by kernel_rfl
theorem agg170 : aggB Tryz.prog 170 = some false := by simp [aggB, Tryz.underlying170]
attribute [go_sem] Tryz.underlying170 tsz170 tby170 tz170 agg170
-- t 171 func(uint8) uint8
theorem tsz171 : tsz Tryz.prog 171 = some 1 := by kernel_rfl
theorem tby171 : tby Tryz.prog 171 = some 8 := by kernel_rfl
theorem tz171 : tzero Tryz.prog 171 = some (.nilFunc) := by kernel_rfl
theorem agg171 : aggB Tryz.prog 171 = some false := by simp [aggB, Tryz.underlying171]
attribute [go_sem] Tryz.underlying171 tsz171 tby171 tz171 agg171
-- t 172 *strconv.NumError
theorem tsz172 : tsz Tryz.prog 172 = some 1 := by kernel_rfl
theorem tby172 : tby Tryz.prog 172 = some 8 := by kernel_rfl
theorem tz172 : tzero Tryz.prog 172 = some (.pointer none) := by kernel_rfl
theorem agg172 : aggB Tryz.prog 172 = some false := by simp [aggB, Tryz.underlying172]
attribute [go_sem] Tryz.underlying172 tsz172 tby172 tz172 agg172
-- t 173 func(string, string) *strconv.NumError
theorem tsz173 : tsz Tryz.prog 173 = some 1 := by kernel_rfl
theorem tby173 : tby Tryz.prog 173 = some 8 := by kernel_rfl
theorem tz173 : tzero Tryz.prog 173 = some (.nilFunc) := by kernel_rfl
theorem agg173 : aggB Tryz.prog 173 = some false := by simp [aggB, Tryz.underlying173]
attribute [go_sem] Tryz.underlying173 tsz173 tby173 tz173 agg173
-- t 174 func(string, string, int) *strconv.NumError
theorem tsz174 : tsz Tryz.prog 174 = some 1 := by kernel_rfl
theorem tby174 : tby Tryz.prog 174 = some 8 := by kernel_rfl
theorem tz174 : tzero Tryz.prog 174 = some (.nilFunc) := by kernel_rfl
theorem agg174 : aggB Tryz.prog 174 = some false := by simp [aggB, Tryz.underlying174]
attribute [go_sem] Tryz.underlying174 tsz174 tby174 tz174 agg174
-- t 175 func(int64, int) string
theorem tsz175 : tsz Tryz.prog 175 = some 1 := by kernel_rfl
theorem tby175 : tby Tryz.prog 175 = some 8 := by kernel_rfl
theorem tz175 : tzero Tryz.prog 175 = some (.nilFunc) := by kernel_rfl
theorem agg175 : aggB Tryz.prog 175 = some false := by simp [aggB, Tryz.underlying175]
attribute [go_sem] Tryz.underlying175 tsz175 tby175 tz175 agg175
-- t 176 func(uint8) bool
theorem tsz176 : tsz Tryz.prog 176 = some 1 := by kernel_rfl
theorem tby176 : tby Tryz.prog 176 = some 8 := by kernel_rfl
theorem tz176 : tzero Tryz.prog 176 = some (.nilFunc) := by kernel_rfl
theorem agg176 : aggB Tryz.prog 176 = some false := by simp [aggB, Tryz.underlying176]
attribute [go_sem] Tryz.underlying176 tsz176 tby176 tz176 agg176
-- t 178 func(string) (int32, int)
theorem tsz178 : tsz Tryz.prog 178 = some 1 := by kernel_rfl
theorem tby178 : tby Tryz.prog 178 = some 8 := by kernel_rfl
theorem tz178 : tzero Tryz.prog 178 = some (.nilFunc) := by kernel_rfl
theorem agg178 : aggB Tryz.prog 178 = some false := by simp [aggB, Tryz.underlying178]
attribute [go_sem] Tryz.underlying178 tsz178 tby178 tz178 agg178
-- t 179 func(string, int32) bool
theorem tsz179 : tsz Tryz.prog 179 = some 1 := by kernel_rfl
theorem tby179 : tby Tryz.prog 179 = some 8 := by kernel_rfl
theorem tz179 : tzero Tryz.prog 179 = some (.nilFunc) := by kernel_rfl
theorem agg179 : aggB Tryz.prog 179 = some false := by simp [aggB, Tryz.underlying179]
attribute [go_sem] Tryz.underlying179 tsz179 tby179 tz179 agg179
-- t 180 func(int) int
theorem tsz180 : tsz Tryz.prog 180 = some 1 := by kernel_rfl
theorem tby180 : tby Tryz.prog 180 = some 8 := by kernel_rfl
theorem tz180 : tzero Tryz.prog 180 = some (.nilFunc) := by kernel_rfl
theorem agg180 : aggB Tryz.prog 180 = some false := by simp [aggB, Tryz.underlying180]
attribute [go_sem] Tryz.underlying180 tsz180 tby180 tz180 agg180
-- t 181 func(bool) int
theorem tsz181 : tsz Tryz.prog 181 = some 1 := by kernel_rfl
theorem tby181 : tby Tryz.prog 181 = some 8 := by kernel_rfl
theorem tz181 : tzero Tryz.prog 181 = some (.nilFunc) := by kernel_rfl
theorem agg181 : aggB Tryz.prog 181 = some false := by simp [aggB, Tryz.underlying181]
attribute [go_sem] Tryz.underlying181 tsz181 tby181 tz181 agg181
-- t 182 [20]uint64
theorem tsz182 : tsz Tryz.prog 182 = some 20 := by kernel_rfl
theorem tby182 : tby Tryz.prog 182 = some 160 := by kernel_rfl
theorem agg182 : aggB Tryz.prog 182 = some true := by simp [aggB, Tryz.underlying182]
attribute [go_sem] Tryz.underlying182 tsz182 tby182 agg182
-- t 183 [65]uint8
theorem tsz183 : tsz Tryz.prog 183 = some 65 := by kernel_rfl
theorem tby183 : tby Tryz.prog 183 = some 65 := by kernel_rfl
theorem agg183 : aggB Tryz.prog 183 = some true := by simp [aggB, Tryz.underlying183]
attribute [go_sem] Tryz.underlying183 tsz183 tby183 agg183
-- t 184 struct ( Func string; Num string; Err error )
theorem tsz184 : tsz Tryz.prog 184 = some 3 := by kernel_rfl
theorem tby184 : tby Tryz.prog 184 = some 48 := by kernel_rfl
theorem tz184 : tzero Tryz.prog 184 = some (.agg #[.string ⟨#[]⟩, .string ⟨#[]⟩, .nilIface]) := by kernel_rfl
theorem agg184 : aggB Tryz.prog 184 = some true := by simp [aggB, Tryz.underlying184]
attribute [go_sem] Tryz.underlying184 tsz184 tby184 tz184 agg184
-- t 185 strconv.NumError
theorem tsz185 : tsz Tryz.prog 185 = some 3 := by kernel_rfl
theorem tby185 : tby Tryz.prog 185 = some 48 := by kernel_rfl
theorem tz185 : tzero Tryz.prog 185 = some (.agg #[.string ⟨#[]⟩, .string ⟨#[]⟩, .nilIface]) := by kernel_rfl
theorem agg185 : aggB Tryz.prog 185 = some true := by simp [aggB, Tryz.underlying185]
attribute [go_sem] Tryz.underlying185 tsz185 tby185 tz185 agg185
-- t 186 func(string) error
theorem tsz186 : tsz Tryz.prog 186 = some 1 := by kernel_rfl
theorem tby186 : tby Tryz.prog 186 = some 8 := by kernel_rfl
theorem tz186 : tzero Tryz.prog 186 = some (.nilFunc) := by kernel_rfl
theorem agg186 : aggB Tryz.prog 186 = some false := by simp [aggB, Tryz.underlying186]
attribute [go_sem] Tryz.underlying186 tsz186 tby186 tz186 agg186
-- t 187 func(string, int32) int
theorem tsz187 : tsz Tryz.prog 187 = some 1 := by kernel_rfl
theorem tby187 : tby Tryz.prog 187 = some 8 := by kernel_rfl
theorem tz187 : tzero Tryz.prog 187 = some (.nilFunc) := by kernel_rfl
theorem agg187 : aggB Tryz.prog 187 = some false := by simp [aggB, Tryz.underlying187]
attribute [go_sem] Tryz.underlying187 tsz187 tby187 tz187 agg187
-- t 188 *uint8
theorem tsz188 : tsz Tryz.prog 188 = some 1 := by kernel_rfl
theorem tby188 : tby Tryz.prog 188 = some 8 := by kernel_rfl
theorem tz188 : tzero Tryz.prog 188 = some (.pointer none) := by kernel_rfl
theorem agg188 : aggB Tryz.prog 188 = some false := by simp [aggB, Tryz.underlying188]
attribute [go_sem] Tryz.underlying188 tsz188 tby188 tz188 agg188
-- t 189 *errors.errorString
theorem tsz189 : tsz Tryz.prog 189 = some 1 := by kernel_rfl
theorem tby189 : tby Tryz.prog 189 = some 8 := by kernel_rfl
theorem tz189 : tzero Tryz.prog 189 = some (.pointer none) := by kernel_rfl
theorem agg189 : aggB Tryz.prog 189 = some false := by simp [aggB, Tryz.underlying189]
attribute [go_sem] Tryz.underlying189 tsz189 tby189 tz189 agg189
-- t 190 struct ( s string )
theorem tsz190 : tsz Tryz.prog 190 = some 1 := by kernel_rfl
theorem tby190 : tby Tryz.prog 190 = some 16 := by kernel_rfl
theorem tz190 : tzero Tryz.prog 190 = some (.agg #[.string ⟨#[]⟩]) := by kernel_rfl
theorem agg190 : aggB Tryz.prog 190 = some true := by simp [aggB, Tryz.underlying190]
attribute [go_sem] Tryz.underlying190 tsz190 tby190 tz190 agg190
-- t 191 errors.errorString
theorem tsz191 : tsz Tryz.prog 191 = some 1 := by kernel_rfl
theorem tby191 : tby Tryz.prog 191 = some 16 := by kernel_rfl
theorem tz191 : tzero Tryz.prog 191 = some (.agg #[.string ⟨#[]⟩]) := by kernel_rfl
theorem agg191 : aggB Tryz.prog 191 = some true := by simp [aggB, Tryz.underlying191]
attribute [go_sem] Tryz.underlying191 tsz191 tby191 tz191 agg191
-- t 192 [256]uint8
theorem tsz192 : tsz Tryz.prog 192 = some 256 := by kernel_rfl
theorem tby192 : tby Tryz.prog 192 = some 256 := by kernel_rfl
theorem agg192 : aggB Tryz.prog 192 = some true := by simp [aggB, Tryz.underlying192]
attribute [go_sem] Tryz.underlying192 tsz192 tby192 agg192
-- t 193 struct ( lo uint8; hi uint8 )
theorem tsz193 : tsz Tryz.prog 193 = some 2 := by kernel_rfl
theorem tby193 : tby Tryz.prog 193 = some 2 := by kernel_rfl
theorem tz193 : tzero Tryz.prog 193 = some (.agg #[.int .u8 0, .int .u8 0]) := by kernel_rfl
theorem agg193 : aggB Tryz.prog 193 = some true := by simp [aggB, Tryz.underlying193]
attribute [go_sem] Tryz.underlying193 tsz193 tby193 tz193 agg193
-- t 194 utf8.acceptRange = unicode/utf8.acceptRange
theorem tsz194 : tsz Tryz.prog 194 = some 2 := by kernel_rfl
theorem tby194 : tby Tryz.prog 194 = some 2 := by kernel_rfl
theorem tz194 : tzero Tryz.prog 194 = some (.agg #[.int .u8 0, .int .u8 0]) := by kernel_rfl
theorem agg194 : aggB Tryz.prog 194 = some true := by simp [aggB, Tryz.underlying194]
attribute [go_sem] Tryz.underlying194 tsz194 tby194 tz194 agg194
-- t 195 [16]utf8.acceptRange
theorem tsz195 : tsz Tryz.prog 195 = some 32 := by kernel_rfl
theorem tby195 : tby Tryz.prog 195 = some 32 := by kernel_rfl
theorem agg195 : aggB Tryz.prog 195 = some true := by simp [aggB, Tryz.underlying195]
attribute [go_sem] Tryz.underlying195 tsz195 tby195 agg195
-- t 196 func(int32) bool
theorem tsz196 : tsz Tryz.prog 196 = some 1 := by kernel_rfl
theorem tby196 : tby Tryz.prog 196 = some 8 := by kernel_rfl
theorem tz196 : tzero Tryz.prog 196 = some (.nilFunc) := by kernel_rfl
theorem agg196 : aggB Tryz.prog 196 = some false := by simp [aggB, Tryz.underlying196]
attribute [go_sem] Tryz.underlying196 tsz196 tby196 tz196 agg196
-- t 198 func(string) (uint32, uint32)
theorem tsz198 : tsz Tryz.prog 198 = some 1 := by kernel_rfl
theorem tby198 : tby Tryz.prog 198 = some 8 := by kernel_rfl
theorem tz198 : tzero Tryz.prog 198 = some (.nilFunc) := by kernel_rfl
theorem agg198 : aggB Tryz.prog 198 = some false := by simp [aggB, Tryz.underlying198]
attribute [go_sem] Tryz.underlying198 tsz198 tby198 tz198 agg198
-- t 199 [32]uint8
theorem tsz199 : tsz Tryz.prog 199 = some 32 := by kernel_rfl
theorem tby199 : tby Tryz.prog 199 = some 32 := by kernel_rfl
theorem agg199 : aggB Tryz.prog 199 = some true := by simp [aggB, Tryz.underlying199]
attribute [go_sem] Tryz.underlying199 tsz199 tby199 agg199
-- t 200 [64]uint8
theorem tsz200 : tsz Tryz.prog 200 = some 64 := by kernel_rfl
theorem tby200 : tby Tryz.prog 200 = some 64 := by kernel_rfl
theorem agg200 : aggB Tryz.prog 200 = some true := by simp [aggB, Tryz.underlying200]
attribute [go_sem] Tryz.underlying200 tsz200 tby200 agg200
-- t 201 func() string
theorem tsz201 : tsz Tryz.prog 201 = some 1 := by kernel_rfl
theorem tby201 : tby Tryz.prog 201 = some 8 := by kernel_rfl
theorem tz201 : tzero Tryz.prog 201 = some (.nilFunc) := by kernel_rfl
theorem agg201 : aggB Tryz.prog 201 = some false := by simp [aggB, Tryz.underlying201]
attribute [go_sem] Tryz.underlying201 tsz201 tby201 tz201 agg201
end L23
