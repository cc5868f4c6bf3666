import Derived.Test.YteodcjamnfoidaaDoorProg
import Derived.KernelRfl
import Derived.Test.YteodcjamnfoidaaDoorAbLibD
open Go Ab Go.Proofs
namespace L19
set_option autoImplicit false
set_option linter.unusedSimpArgs false
set_option linter.unusedVariables false

theorem hmix : Tryd.prog.follows .mixedOrders = true := by kernel_rfl
-- t 1 func()
theorem tsz1 : tsz Tryd.prog 1 = some 1 := by kernel_rfl
theorem tby1 : tby Tryd.prog 1 = some 8 := by kernel_rfl
theorem tz1 : tzero Tryd.prog 1 = some (.nilFunc) := by kernel_rfl
theorem agg1 : aggB Tryd.prog 1 = some false := by simp [aggB, Tryd.underlying1]
attribute [go_sem] Tryd.underlying1 tsz1 tby1 tz1 agg1
-- t 2 int64
theorem tsz2 : tsz Tryd.prog 2 = some 1 := by kernel_rfl
theorem tby2 : tby Tryd.prog 2 = some 8 := by kernel_rfl
theorem tz2 : tzero Tryd.prog 2 = some (.int .i64 0) := by kernel_rfl
theorem agg2 : aggB Tryd.prog 2 = some false := by simp [aggB, Tryd.underlying2]
attribute [go_sem] Tryd.underlying2 tsz2 tby2 tz2 agg2
-- t 3 int
theorem tsz3 : tsz Tryd.prog 3 = some 1 := by kernel_rfl
theorem tby3 : tby Tryd.prog 3 = some 8 := by kernel_rfl
theorem tz3 : tzero Tryd.prog 3 = some (.int .i64 0) := by kernel_rfl
theorem agg3 : aggB Tryd.prog 3 = some false := by simp [aggB, Tryd.underlying3]
attribute [go_sem] Tryd.underlying3 tsz3 tby3 tz3 agg3
-- t 4 bool
theorem tsz4 : tsz Tryd.prog 4 = some 1 := by kernel_rfl
theorem tby4 : tby Tryd.prog 4 = some 1 := by kernel_rfl
theorem tz4 : tzero Tryd.prog 4 = some (.bool false) := by kernel_rfl
theorem agg4 : aggB Tryd.prog 4 = some false := by simp [aggB, Tryd.underlying4]
attribute [go_sem] Tryd.underlying4 tsz4 tby4 tz4 agg4
-- t 5 uint8
theorem tsz5 : tsz Tryd.prog 5 = some 1 := by kernel_rfl
theorem tby5 : tby Tryd.prog 5 = some 1 := by kernel_rfl
theorem tz5 : tzero Tryd.prog 5 = some (.int .u8 0) := by kernel_rfl
theorem agg5 : aggB Tryd.prog 5 = some false := by simp [aggB, Tryd.underlying5]
attribute [go_sem] Tryd.underlying5 tsz5 tby5 tz5 agg5
-- t 9 string
theorem tsz9 : tsz Tryd.prog 9 = some 1 := by kernel_rfl
theorem tby9 : tby Tryd.prog 9 = some 16 := by kernel_rfl
theorem tz9 : tzero Tryd.prog 9 = some (.string ⟨#[]⟩) := by kernel_rfl
theorem agg9 : aggB Tryd.prog 9 = some false := by simp [aggB, Tryd.underlying9]
theorem nI9 : noInt Tryd.prog 9 = true := by simp [noInt, Tryd.underlying9]
attribute [go_sem] Tryd.underlying9 tsz9 tby9 tz9 agg9 nI9
-- t 20 interface ()
theorem tsz20 : tsz Tryd.prog 20 = some 1 := by kernel_rfl
theorem tby20 : tby Tryd.prog 20 = some 16 := by kernel_rfl
theorem tz20 : tzero Tryd.prog 20 = some (.nilIface) := by kernel_rfl
theorem agg20 : aggB Tryd.prog 20 = some false := by simp [aggB, Tryd.underlying20]
attribute [go_sem] Tryd.underlying20 tsz20 tby20 tz20 agg20
-- t 21 int32
theorem tsz21 : tsz Tryd.prog 21 = some 1 := by kernel_rfl
theorem tby21 : tby Tryd.prog 21 = some 4 := by kernel_rfl
theorem tz21 : tzero Tryd.prog 21 = some (.int .i32 0) := by kernel_rfl
theorem agg21 : aggB Tryd.prog 21 = some false := by simp [aggB, Tryd.underlying21]
attribute [go_sem] Tryd.underlying21 tsz21 tby21 tz21 agg21
-- t 22 []uint8
theorem tsz22 : tsz Tryd.prog 22 = some 1 := by kernel_rfl
theorem tby22 : tby Tryd.prog 22 = some 24 := by kernel_rfl
theorem tz22 : tzero Tryd.prog 22 = some (.slice none 0 0) := by kernel_rfl
theorem agg22 : aggB Tryd.prog 22 = some false := by simp [aggB, Tryd.underlying22]
theorem nI22 : noInt Tryd.prog 22 = true := by simp [noInt, Tryd.underlying22]
attribute [go_sem] Tryd.underlying22 tsz22 tby22 tz22 agg22 nI22
-- t 23 func() bool
theorem tsz23 : tsz Tryd.prog 23 = some 1 := by kernel_rfl
theorem tby23 : tby Tryd.prog 23 = some 8 := by kernel_rfl
theorem tz23 : tzero Tryd.prog 23 = some (.nilFunc) := by kernel_rfl
theorem agg23 : aggB Tryd.prog 23 = some false := by simp [aggB, Tryd.underlying23]
attribute [go_sem] Tryd.underlying23 tsz23 tby23 tz23 agg23
-- t 24 *tree.Tree
theorem tsz24 : tsz Tryd.prog 24 = some 1 := by kernel_rfl
theorem tby24 : tby Tryd.prog 24 = some 8 := by kernel_rfl
theorem tz24 : tzero Tryd.prog 24 = some (.pointer none) := by kernel_rfl
theorem agg24 : aggB Tryd.prog 24 = some false := by simp [aggB, Tryd.underlying24]
attribute [go_sem] Tryd.underlying24 tsz24 tby24 tz24 agg24
-- t 25 func() *tree.Tree
theorem tsz25 : tsz Tryd.prog 25 = some 1 := by kernel_rfl
theorem tby25 : tby Tryd.prog 25 = some 8 := by kernel_rfl
theorem tz25 : tzero Tryd.prog 25 = some (.nilFunc) := by kernel_rfl
theorem agg25 : aggB Tryd.prog 25 = some false := by simp [aggB, Tryd.underlying25]
attribute [go_sem] Tryd.underlying25 tsz25 tby25 tz25 agg25
-- t 26 api.Errno = gangway/api.Errno
theorem tsz26 : tsz Tryd.prog 26 = some 1 := by kernel_rfl
theorem tby26 : tby Tryd.prog 26 = some 8 := by kernel_rfl
theorem tz26 : tzero Tryd.prog 26 = some (.int .i64 0) := by kernel_rfl
theorem agg26 : aggB Tryd.prog 26 = some false := by simp [aggB, Tryd.underlying26]
attribute [go_sem] Tryd.underlying26 tsz26 tby26 tz26 agg26
-- t 27 func(string, string, int) api.Errno
theorem tsz27 : tsz Tryd.prog 27 = some 1 := by kernel_rfl
theorem tby27 : tby Tryd.prog 27 = some 8 := by kernel_rfl
theorem tz27 : tzero Tryd.prog 27 = some (.nilFunc) := by kernel_rfl
theorem agg27 : aggB Tryd.prog 27 = some false := by simp [aggB, Tryd.underlying27]
attribute [go_sem] Tryd.underlying27 tsz27 tby27 tz27 agg27
-- t 28 func(string, string, []uint8, int) api.Errno
theorem tsz28 : tsz Tryd.prog 28 = some 1 := by kernel_rfl
theorem tby28 : tby Tryd.prog 28 = some 8 := by kernel_rfl
theorem tz28 : tzero Tryd.prog 28 = some (.nilFunc) := by kernel_rfl
theorem agg28 : aggB Tryd.prog 28 = some false := by simp [aggB, Tryd.underlying28]
attribute [go_sem] Tryd.underlying28 tsz28 tby28 tz28 agg28
-- t 30 func(string, string) ([]uint8, api.Errno)
theorem tsz30 : tsz Tryd.prog 30 = some 1 := by kernel_rfl
theorem tby30 : tby Tryd.prog 30 = some 8 := by kernel_rfl
theorem tz30 : tzero Tryd.prog 30 = some (.nilFunc) := by kernel_rfl
theorem agg30 : aggB Tryd.prog 30 = some false := by simp [aggB, Tryd.underlying30]
attribute [go_sem] Tryd.underlying30 tsz30 tby30 tz30 agg30
-- t 31 uint
theorem tsz31 : tsz Tryd.prog 31 = some 1 := by kernel_rfl
theorem tby31 : tby Tryd.prog 31 = some 8 := by kernel_rfl
theorem tz31 : tzero Tryd.prog 31 = some (.int .u64 0) := by kernel_rfl
theorem agg31 : aggB Tryd.prog 31 = some false := by simp [aggB, Tryd.underlying31]
attribute [go_sem] Tryd.underlying31 tsz31 tby31 tz31 agg31
-- t 32 func([]uint8, int, string) bool
theorem tsz32 : tsz Tryd.prog 32 = some 1 := by kernel_rfl
theorem tby32 : tby Tryd.prog 32 = some 8 := by kernel_rfl
theorem tz32 : tzero Tryd.prog 32 = some (.nilFunc) := by kernel_rfl
theorem agg32 : aggB Tryd.prog 32 = some false := by simp [aggB, Tryd.underlying32]
attribute [go_sem] Tryd.underlying32 tsz32 tby32 tz32 agg32
-- t 33 func([]uint8, int) bool
theorem tsz33 : tsz Tryd.prog 33 = some 1 := by kernel_rfl
theorem tby33 : tby Tryd.prog 33 = some 8 := by kernel_rfl
theorem tz33 : tzero Tryd.prog 33 = some (.nilFunc) := by kernel_rfl
theorem agg33 : aggB Tryd.prog 33 = some false := by simp [aggB, Tryd.underlying33]
attribute [go_sem] Tryd.underlying33 tsz33 tby33 tz33 agg33
-- t 34 []gangwaylaw19.Op
theorem tsz34 : tsz Tryd.prog 34 = some 1 := by kernel_rfl
theorem tby34 : tby Tryd.prog 34 = some 24 := by kernel_rfl
theorem tz34 : tzero Tryd.prog 34 = some (.slice none 0 0) := by kernel_rfl
theorem agg34 : aggB Tryd.prog 34 = some false := by simp [aggB, Tryd.underlying34]
theorem nI34 : noInt Tryd.prog 34 = true := by simp [noInt, Tryd.underlying34]
attribute [go_sem] Tryd.underlying34 tsz34 tby34 tz34 agg34 nI34
-- t 35 func([]gangwaylaw19.Op) bool
theorem tsz35 : tsz Tryd.prog 35 = some 1 := by kernel_rfl
theorem tby35 : tby Tryd.prog 35 = some 8 := by kernel_rfl
theorem tz35 : tzero Tryd.prog 35 = some (.nilFunc) := by kernel_rfl
theorem agg35 : aggB Tryd.prog 35 = some false := by simp [aggB, Tryd.underlying35]
attribute [go_sem] Tryd.underlying35 tsz35 tby35 tz35 agg35
-- t 36 struct ( Kind int; Mode int; Who string; Path string; Owner string; Data []uint8 )
theorem tsz36 : tsz Tryd.prog 36 = some 6 := by kernel_rfl
theorem tby36 : tby Tryd.prog 36 = some 88 := by kernel_rfl
theorem tz36 : tzero Tryd.prog 36 = some (.agg #[.int .i64 0, .int .i64 0, .string ⟨#[]⟩, .string ⟨#[]⟩, .string ⟨#[]⟩, .slice none 0 0]) := by kernel_rfl
theorem agg36 : aggB Tryd.prog 36 = some true := by simp [aggB, Tryd.underlying36]
attribute [go_sem] Tryd.underlying36 tsz36 tby36 tz36 agg36
-- t 37 gangwaylaw19.Op = gangway/gangwaylaw19.Op
theorem tsz37 : tsz Tryd.prog 37 = some 6 := by kernel_rfl
theorem tby37 : tby Tryd.prog 37 = some 88 := by kernel_rfl
theorem tz37 : tzero Tryd.prog 37 = some (.agg #[.int .i64 0, .int .i64 0, .string ⟨#[]⟩, .string ⟨#[]⟩, .string ⟨#[]⟩, .slice none 0 0]) := by kernel_rfl
theorem agg37 : aggB Tryd.prog 37 = some true := by simp [aggB, Tryd.underlying37]
attribute [go_sem] Tryd.underlying37 tsz37 tby37 tz37 agg37
-- t 38 func(string, string) api.Errno
theorem tsz38 : tsz Tryd.prog 38 = some 1 := by kernel_rfl
theorem tby38 : tby Tryd.prog 38 = some 8 := by kernel_rfl
theorem tz38 : tzero Tryd.prog 38 = some (.nilFunc) := by kernel_rfl
theorem agg38 : aggB Tryd.prog 38 = some false := by simp [aggB, Tryd.underlying38]
attribute [go_sem] Tryd.underlying38 tsz38 tby38 tz38 agg38
-- t 39 map[string]bool
theorem tsz39 : tsz Tryd.prog 39 = some 1 := by kernel_rfl
theorem tby39 : tby Tryd.prog 39 = some 8 := by kernel_rfl
theorem tz39 : tzero Tryd.prog 39 = some (.map none) := by kernel_rfl
theorem agg39 : aggB Tryd.prog 39 = some false := by simp [aggB, Tryd.underlying39]
attribute [go_sem] Tryd.underlying39 tsz39 tby39 tz39 agg39
-- t 40 []api.Node
theorem tsz40 : tsz Tryd.prog 40 = some 1 := by kernel_rfl
theorem tby40 : tby Tryd.prog 40 = some 24 := by kernel_rfl
theorem tz40 : tzero Tryd.prog 40 = some (.slice none 0 0) := by kernel_rfl
theorem agg40 : aggB Tryd.prog 40 = some false := by simp [aggB, Tryd.underlying40]
theorem nI40 : noInt Tryd.prog 40 = true := by simp [noInt, Tryd.underlying40]
attribute [go_sem] Tryd.underlying40 tsz40 tby40 tz40 agg40 nI40
-- t 41 func() []api.Node
theorem tsz41 : tsz Tryd.prog 41 = some 1 := by kernel_rfl
theorem tby41 : tby Tryd.prog 41 = some 8 := by kernel_rfl
theorem tz41 : tzero Tryd.prog 41 = some (.nilFunc) := by kernel_rfl
theorem agg41 : aggB Tryd.prog 41 = some false := by simp [aggB, Tryd.underlying41]
attribute [go_sem] Tryd.underlying41 tsz41 tby41 tz41 agg41
-- t 42 struct ( Path string; Dir bool; Owner string; Mode int; Data []uint8 )
theorem tsz42 : tsz Tryd.prog 42 = some 5 := by kernel_rfl
theorem tby42 : tby Tryd.prog 42 = some 72 := by kernel_rfl
theorem tz42 : tzero Tryd.prog 42 = some (.agg #[.string ⟨#[]⟩, .bool false, .string ⟨#[]⟩, .int .i64 0, .slice none 0 0]) := by kernel_rfl
theorem agg42 : aggB Tryd.prog 42 = some true := by simp [aggB, Tryd.underlying42]
attribute [go_sem] Tryd.underlying42 tsz42 tby42 tz42 agg42
-- t 43 api.Node = gangway/api.Node
theorem tsz43 : tsz Tryd.prog 43 = some 5 := by kernel_rfl
theorem tby43 : tby Tryd.prog 43 = some 72 := by kernel_rfl
theorem tz43 : tzero Tryd.prog 43 = some (.agg #[.string ⟨#[]⟩, .bool false, .string ⟨#[]⟩, .int .i64 0, .slice none 0 0]) := by kernel_rfl
theorem agg43 : aggB Tryd.prog 43 = some true := by simp [aggB, Tryd.underlying43]
attribute [go_sem] Tryd.underlying43 tsz43 tby43 tz43 agg43
-- t 44 func(string) bool
theorem tsz44 : tsz Tryd.prog 44 = some 1 := by kernel_rfl
theorem tby44 : tby Tryd.prog 44 = some 8 := by kernel_rfl
theorem tz44 : tzero Tryd.prog 44 = some (.nilFunc) := by kernel_rfl
theorem agg44 : aggB Tryd.prog 44 = some false := by simp [aggB, Tryd.underlying44]
attribute [go_sem] Tryd.underlying44 tsz44 tby44 tz44 agg44
-- t 45 func(string) string
theorem tsz45 : tsz Tryd.prog 45 = some 1 := by kernel_rfl
theorem tby45 : tby Tryd.prog 45 = some 8 := by kernel_rfl
theorem tz45 : tzero Tryd.prog 45 = some (.nilFunc) := by kernel_rfl
theorem agg45 : aggB Tryd.prog 45 = some false := by simp [aggB, Tryd.underlying45]
attribute [go_sem] Tryd.underlying45 tsz45 tby45 tz45 agg45
-- t 46 func(int, bool) bool
theorem tsz46 : tsz Tryd.prog 46 = some 1 := by kernel_rfl
theorem tby46 : tby Tryd.prog 46 = some 8 := by kernel_rfl
theorem tz46 : tzero Tryd.prog 46 = some (.nilFunc) := by kernel_rfl
theorem agg46 : aggB Tryd.prog 46 = some false := by simp [aggB, Tryd.underlying46]
attribute [go_sem] Tryd.underlying46 tsz46 tby46 tz46 agg46
-- t 47 func(string, string, string) api.Errno
theorem tsz47 : tsz Tryd.prog 47 = some 1 := by kernel_rfl
theorem tby47 : tby Tryd.prog 47 = some 8 := by kernel_rfl
theorem tz47 : tzero Tryd.prog 47 = some (.nilFunc) := by kernel_rfl
theorem agg47 : aggB Tryd.prog 47 = some false := by simp [aggB, Tryd.underlying47]
attribute [go_sem] Tryd.underlying47 tsz47 tby47 tz47 agg47
-- t 48 func([]api.Node, []api.Node) bool
theorem tsz48 : tsz Tryd.prog 48 = some 1 := by kernel_rfl
theorem tby48 : tby Tryd.prog 48 = some 8 := by kernel_rfl
theorem tz48 : tzero Tryd.prog 48 = some (.nilFunc) := by kernel_rfl
theorem agg48 : aggB Tryd.prog 48 = some false := by simp [aggB, Tryd.underlying48]
attribute [go_sem] Tryd.underlying48 tsz48 tby48 tz48 agg48
-- t 49 func([]gangwaylaw19.Op, []gangwaylaw19.Op) bool
theorem tsz49 : tsz Tryd.prog 49 = some 1 := by kernel_rfl
theorem tby49 : tby Tryd.prog 49 = some 8 := by kernel_rfl
theorem tz49 : tzero Tryd.prog 49 = some (.nilFunc) := by kernel_rfl
theorem agg49 : aggB Tryd.prog 49 = some false := by simp [aggB, Tryd.underlying49]
attribute [go_sem] Tryd.underlying49 tsz49 tby49 tz49 agg49
-- t 50 *gangwayref19.Tree
theorem tsz50 : tsz Tryd.prog 50 = some 1 := by kernel_rfl
theorem tby50 : tby Tryd.prog 50 = some 8 := by kernel_rfl
theorem tz50 : tzero Tryd.prog 50 = some (.pointer none) := by kernel_rfl
theorem agg50 : aggB Tryd.prog 50 = some false := by simp [aggB, Tryd.underlying50]
attribute [go_sem] Tryd.underlying50 tsz50 tby50 tz50 agg50
-- t 51 func() *gangwayref19.Tree
theorem tsz51 : tsz Tryd.prog 51 = some 1 := by kernel_rfl
theorem tby51 : tby Tryd.prog 51 = some 8 := by kernel_rfl
theorem tz51 : tzero Tryd.prog 51 = some (.nilFunc) := by kernel_rfl
theorem agg51 : aggB Tryd.prog 51 = some false := by simp [aggB, Tryd.underlying51]
attribute [go_sem] Tryd.underlying51 tsz51 tby51 tz51 agg51
-- t 52 func(string, string) int
theorem tsz52 : tsz Tryd.prog 52 = some 1 := by kernel_rfl
theorem tby52 : tby Tryd.prog 52 = some 8 := by kernel_rfl
theorem tz52 : tzero Tryd.prog 52 = some (.nilFunc) := by kernel_rfl
theorem agg52 : aggB Tryd.prog 52 = some false := by simp [aggB, Tryd.underlying52]
attribute [go_sem] Tryd.underlying52 tsz52 tby52 tz52 agg52
-- t 53 func(string, string, int) int
theorem tsz53 : tsz Tryd.prog 53 = some 1 := by kernel_rfl
theorem tby53 : tby Tryd.prog 53 = some 8 := by kernel_rfl
theorem tz53 : tzero Tryd.prog 53 = some (.nilFunc) := by kernel_rfl
theorem agg53 : aggB Tryd.prog 53 = some false := by simp [aggB, Tryd.underlying53]
attribute [go_sem] Tryd.underlying53 tsz53 tby53 tz53 agg53
-- t 54 func(string, string, string) int
theorem tsz54 : tsz Tryd.prog 54 = some 1 := by kernel_rfl
theorem tby54 : tby Tryd.prog 54 = some 8 := by kernel_rfl
theorem tz54 : tzero Tryd.prog 54 = some (.nilFunc) := by kernel_rfl
theorem agg54 : aggB Tryd.prog 54 = some false := by simp [aggB, Tryd.underlying54]
attribute [go_sem] Tryd.underlying54 tsz54 tby54 tz54 agg54
-- t 55 func(string, string, []uint8, int) int
theorem tsz55 : tsz Tryd.prog 55 = some 1 := by kernel_rfl
theorem tby55 : tby Tryd.prog 55 = some 8 := by kernel_rfl
theorem tz55 : tzero Tryd.prog 55 = some (.nilFunc) := by kernel_rfl
theorem agg55 : aggB Tryd.prog 55 = some false := by simp [aggB, Tryd.underlying55]
attribute [go_sem] Tryd.underlying55 tsz55 tby55 tz55 agg55
-- t 56 func(*tree.Tree, *gangwayref19.Tree, gangwaylaw19.Op) bool
theorem tsz56 : tsz Tryd.prog 56 = some 1 := by kernel_rfl
theorem tby56 : tby Tryd.prog 56 = some 8 := by kernel_rfl
theorem tz56 : tzero Tryd.prog 56 = some (.nilFunc) := by kernel_rfl
theorem agg56 : aggB Tryd.prog 56 = some false := by simp [aggB, Tryd.underlying56]
attribute [go_sem] Tryd.underlying56 tsz56 tby56 tz56 agg56
-- t 57 struct ( N []api.Node )
theorem tsz57 : tsz Tryd.prog 57 = some 1 := by kernel_rfl
theorem tby57 : tby Tryd.prog 57 = some 24 := by kernel_rfl
theorem tz57 : tzero Tryd.prog 57 = some (.agg #[.slice none 0 0]) := by kernel_rfl
theorem agg57 : aggB Tryd.prog 57 = some true := by simp [aggB, Tryd.underlying57]
attribute [go_sem] Tryd.underlying57 tsz57 tby57 tz57 agg57
-- t 58 gangwayref19.Tree = gangway/gangwayref19.Tree
theorem tsz58 : tsz Tryd.prog 58 = some 1 := by kernel_rfl
theorem tby58 : tby Tryd.prog 58 = some 24 := by kernel_rfl
theorem tz58 : tzero Tryd.prog 58 = some (.agg #[.slice none 0 0]) := by kernel_rfl
theorem agg58 : aggB Tryd.prog 58 = some true := by simp [aggB, Tryd.underlying58]
attribute [go_sem] Tryd.underlying58 tsz58 tby58 tz58 agg58
-- t 59 *api.Node
theorem tsz59 : tsz Tryd.prog 59 = some 1 := by kernel_rfl
theorem tby59 : tby Tryd.prog 59 = some 8 := by kernel_rfl
theorem tz59 : tzero Tryd.prog 59 = some (.pointer none) := by kernel_rfl
theorem agg59 : aggB Tryd.prog 59 = some false := by simp [aggB, Tryd.underlying59]
attribute [go_sem] Tryd.underlying59 tsz59 tby59 tz59 agg59
-- t 60 map[string]*api.Node
theorem tsz60 : tsz Tryd.prog 60 = some 1 := by kernel_rfl
theorem tby60 : tby Tryd.prog 60 = some 8 := by kernel_rfl
theorem tz60 : tzero Tryd.prog 60 = some (.map none) := by kernel_rfl
theorem agg60 : aggB Tryd.prog 60 = some false := by simp [aggB, Tryd.underlying60]
attribute [go_sem] Tryd.underlying60 tsz60 tby60 tz60 agg60
-- t 61 struct ( nodes map[string]*api.Node )
theorem tsz61 : tsz Tryd.prog 61 = some 1 := by kernel_rfl
theorem tby61 : tby Tryd.prog 61 = some 8 := by kernel_rfl
theorem tz61 : tzero Tryd.prog 61 = some (.agg #[.map none]) := by kernel_rfl
theorem agg61 : aggB Tryd.prog 61 = some true := by simp [aggB, Tryd.underlying61]
attribute [go_sem] Tryd.underlying61 tsz61 tby61 tz61 agg61
-- t 62 tree.Tree = gangway/tree.Tree
theorem tsz62 : tsz Tryd.prog 62 = some 1 := by kernel_rfl
theorem tby62 : tby Tryd.prog 62 = some 8 := by kernel_rfl
theorem tz62 : tzero Tryd.prog 62 = some (.agg #[.map none]) := by kernel_rfl
theorem agg62 : aggB Tryd.prog 62 = some true := by simp [aggB, Tryd.underlying62]
attribute [go_sem] Tryd.underlying62 tsz62 tby62 tz62 agg62
-- t 64 func(string, string) (*api.Node, api.Errno)
theorem tsz64 : tsz Tryd.prog 64 = some 1 := by kernel_rfl
theorem tby64 : tby Tryd.prog 64 = some 8 := by kernel_rfl
theorem tz64 : tzero Tryd.prog 64 = some (.nilFunc) := by kernel_rfl
theorem agg64 : aggB Tryd.prog 64 = some false := by simp [aggB, Tryd.underlying64]
attribute [go_sem] Tryd.underlying64 tsz64 tby64 tz64 agg64
-- t 65 func(int) bool
theorem tsz65 : tsz Tryd.prog 65 = some 1 := by kernel_rfl
theorem tby65 : tby Tryd.prog 65 = some 8 := by kernel_rfl
theorem tz65 : tzero Tryd.prog 65 = some (.nilFunc) := by kernel_rfl
theorem agg65 : aggB Tryd.prog 65 = some false := by simp [aggB, Tryd.underlying65]
attribute [go_sem] Tryd.underlying65 tsz65 tby65 tz65 agg65
-- t 66 func(api.Node) api.Errno
theorem tsz66 : tsz Tryd.prog 66 = some 1 := by kernel_rfl
theorem tby66 : tby Tryd.prog 66 = some 8 := by kernel_rfl
theorem tz66 : tzero Tryd.prog 66 = some (.nilFunc) := by kernel_rfl
theorem agg66 : aggB Tryd.prog 66 = some false := by simp [aggB, Tryd.underlying66]
attribute [go_sem] Tryd.underlying66 tsz66 tby66 tz66 agg66
-- t 67 func([]uint8) []uint8
theorem tsz67 : tsz Tryd.prog 67 = some 1 := by kernel_rfl
theorem tby67 : tby Tryd.prog 67 = some 8 := by kernel_rfl
theorem tz67 : tzero Tryd.prog 67 = some (.nilFunc) := by kernel_rfl
theorem agg67 : aggB Tryd.prog 67 = some false := by simp [aggB, Tryd.underlying67]
attribute [go_sem] Tryd.underlying67 tsz67 tby67 tz67 agg67
-- t 68 func(string, *api.Node, int) bool
theorem tsz68 : tsz Tryd.prog 68 = some 1 := by kernel_rfl
theorem tby68 : tby Tryd.prog 68 = some 8 := by kernel_rfl
theorem tz68 : tzero Tryd.prog 68 = some (.nilFunc) := by kernel_rfl
theorem agg68 : aggB Tryd.prog 68 = some false := by simp [aggB, Tryd.underlying68]
attribute [go_sem] Tryd.underlying68 tsz68 tby68 tz68 agg68
-- t 69 []string
theorem tsz69 : tsz Tryd.prog 69 = some 1 := by kernel_rfl
theorem tby69 : tby Tryd.prog 69 = some 24 := by kernel_rfl
theorem tz69 : tzero Tryd.prog 69 = some (.slice none 0 0) := by kernel_rfl
theorem agg69 : aggB Tryd.prog 69 = some false := by simp [aggB, Tryd.underlying69]
theorem nI69 : noInt Tryd.prog 69 = true := by simp [noInt, Tryd.underlying69]
attribute [go_sem] Tryd.underlying69 tsz69 tby69 tz69 agg69 nI69
-- t 70 func(string) []string
theorem tsz70 : tsz Tryd.prog 70 = some 1 := by kernel_rfl
theorem tby70 : tby Tryd.prog 70 = some 8 := by kernel_rfl
theorem tz70 : tzero Tryd.prog 70 = some (.nilFunc) := by kernel_rfl
theorem agg70 : aggB Tryd.prog 70 = some false := by simp [aggB, Tryd.underlying70]
attribute [go_sem] Tryd.underlying70 tsz70 tby70 tz70 agg70
-- t 71 func(iter.Seq[string]) []string
theorem tsz71 : tsz Tryd.prog 71 = some 1 := by kernel_rfl
theorem tby71 : tby Tryd.prog 71 = some 8 := by kernel_rfl
theorem tz71 : tzero Tryd.prog 71 = some (.nilFunc) := by kernel_rfl
theorem agg71 : aggB Tryd.prog 71 = some false := by simp [aggB, Tryd.underlying71]
attribute [go_sem] Tryd.underlying71 tsz71 tby71 tz71 agg71
-- t 72 func(func(string) bool)
theorem tsz72 : tsz Tryd.prog 72 = some 1 := by kernel_rfl
theorem tby72 : tby Tryd.prog 72 = some 8 := by kernel_rfl
theorem tz72 : tzero Tryd.prog 72 = some (.nilFunc) := by kernel_rfl
theorem agg72 : aggB Tryd.prog 72 = some false := by simp [aggB, Tryd.underlying72]
attribute [go_sem] Tryd.underlying72 tsz72 tby72 tz72 agg72
-- t 73 iter.Seq[string]
theorem tsz73 : tsz Tryd.prog 73 = some 1 := by kernel_rfl
theorem tby73 : tby Tryd.prog 73 = some 8 := by kernel_rfl
theorem tz73 : tzero Tryd.prog 73 = some (.nilFunc) := by kernel_rfl
theorem agg73 : aggB Tryd.prog 73 = some false := by simp [aggB, Tryd.underlying73]
attribute [go_sem] Tryd.underlying73 tsz73 tby73 tz73 agg73
-- t 74 func(map[string]*api.Node) iter.Seq[string]
theorem tsz74 : tsz Tryd.prog 74 = some 1 := by kernel_rfl
theorem tby74 : tby Tryd.prog 74 = some 8 := by kernel_rfl
theorem tz74 : tzero Tryd.prog 74 = some (.nilFunc) := by kernel_rfl
theorem agg74 : aggB Tryd.prog 74 = some false := by simp [aggB, Tryd.underlying74]
attribute [go_sem] Tryd.underlying74 tsz74 tby74 tz74 agg74
-- t 75 func(*api.Node) api.Node
theorem tsz75 : tsz Tryd.prog 75 = some 1 := by kernel_rfl
theorem tby75 : tby Tryd.prog 75 = some 8 := by kernel_rfl
theorem tz75 : tzero Tryd.prog 75 = some (.nilFunc) := by kernel_rfl
theorem agg75 : aggB Tryd.prog 75 = some false := by simp [aggB, Tryd.underlying75]
attribute [go_sem] Tryd.underlying75 tsz75 tby75 tz75 agg75
-- t 77 func(string, string) (string, bool)
theorem tsz77 : tsz Tryd.prog 77 = some 1 := by kernel_rfl
theorem tby77 : tby Tryd.prog 77 = some 8 := by kernel_rfl
theorem tz77 : tzero Tryd.prog 77 = some (.nilFunc) := by kernel_rfl
theorem agg77 : aggB Tryd.prog 77 = some false := by simp [aggB, Tryd.underlying77]
attribute [go_sem] Tryd.underlying77 tsz77 tby77 tz77 agg77
-- t 78 func(string, string) []string
theorem tsz78 : tsz Tryd.prog 78 = some 1 := by kernel_rfl
theorem tby78 : tby Tryd.prog 78 = some 8 := by kernel_rfl
theorem tz78 : tzero Tryd.prog 78 = some (.nilFunc) := by kernel_rfl
theorem agg78 : aggB Tryd.prog 78 = some false := by simp [aggB, Tryd.underlying78]
attribute [go_sem] Tryd.underlying78 tsz78 tby78 tz78 agg78
-- t 79 func([]string, func(string) bool) bool
theorem tsz79 : tsz Tryd.prog 79 = some 1 := by kernel_rfl
theorem tby79 : tby Tryd.prog 79 = some 8 := by kernel_rfl
theorem tz79 : tzero Tryd.prog 79 = some (.nilFunc) := by kernel_rfl
theorem agg79 : aggB Tryd.prog 79 = some false := by simp [aggB, Tryd.underlying79]
attribute [go_sem] Tryd.underlying79 tsz79 tby79 tz79 agg79
-- t 80 func(string) int
theorem tsz80 : tsz Tryd.prog 80 = some 1 := by kernel_rfl
theorem tby80 : tby Tryd.prog 80 = some 8 := by kernel_rfl
theorem tz80 : tzero Tryd.prog 80 = some (.nilFunc) := by kernel_rfl
theorem agg80 : aggB Tryd.prog 80 = some false := by simp [aggB, Tryd.underlying80]
attribute [go_sem] Tryd.underlying80 tsz80 tby80 tz80 agg80
-- t 81 func(string, api.Node, int) bool
theorem tsz81 : tsz Tryd.prog 81 = some 1 := by kernel_rfl
theorem tby81 : tby Tryd.prog 81 = some 8 := by kernel_rfl
theorem tz81 : tzero Tryd.prog 81 = some (.nilFunc) := by kernel_rfl
theorem agg81 : aggB Tryd.prog 81 = some false := by simp [aggB, Tryd.underlying81]
attribute [go_sem] Tryd.underlying81 tsz81 tby81 tz81 agg81
-- t 83 func(string, string) (int, int)
theorem tsz83 : tsz Tryd.prog 83 = some 1 := by kernel_rfl
theorem tby83 : tby Tryd.prog 83 = some 8 := by kernel_rfl
theorem tz83 : tzero Tryd.prog 83 = some (.nilFunc) := by kernel_rfl
theorem agg83 : aggB Tryd.prog 83 = some false := by simp [aggB, Tryd.underlying83]
attribute [go_sem] Tryd.underlying83 tsz83 tby83 tz83 agg83
-- t 84 func(api.Node) int
theorem tsz84 : tsz Tryd.prog 84 = some 1 := by kernel_rfl
theorem tby84 : tby Tryd.prog 84 = some 8 := by kernel_rfl
theorem tz84 : tzero Tryd.prog 84 = some (.nilFunc) := by kernel_rfl
theorem agg84 : aggB Tryd.prog 84 = some false := by simp [aggB, Tryd.underlying84]
attribute [go_sem] Tryd.underlying84 tsz84 tby84 tz84 agg84
-- t 86 func(string, string) (api.Node, api.Errno)
theorem tsz86 : tsz Tryd.prog 86 = some 1 := by kernel_rfl
theorem tby86 : tby Tryd.prog 86 = some 8 := by kernel_rfl
theorem tz86 : tzero Tryd.prog 86 = some (.nilFunc) := by kernel_rfl
theorem agg86 : aggB Tryd.prog 86 = some false := by simp [aggB, Tryd.underlying86]
attribute [go_sem] Tryd.underlying86 tsz86 tby86 tz86 agg86
-- t 88 func(string, string) (api.Node, int)
theorem tsz88 : tsz Tryd.prog 88 = some 1 := by kernel_rfl
theorem tby88 : tby Tryd.prog 88 = some 8 := by kernel_rfl
theorem tz88 : tzero Tryd.prog 88 = some (.nilFunc) := by kernel_rfl
theorem agg88 : aggB Tryd.prog 88 = some false := by simp [aggB, Tryd.underlying88]
attribute [go_sem] Tryd.underlying88 tsz88 tby88 tz88 agg88
-- t 90 func(string, string) ([]uint8, int)
theorem tsz90 : tsz Tryd.prog 90 = some 1 := by kernel_rfl
theorem tby90 : tby Tryd.prog 90 = some 8 := by kernel_rfl
theorem tz90 : tzero Tryd.prog 90 = some (.nilFunc) := by kernel_rfl
theorem agg90 : aggB Tryd.prog 90 = some false := by simp [aggB, Tryd.underlying90]
attribute [go_sem] Tryd.underlying90 tsz90 tby90 tz90 agg90
-- t 92 func(string, string) ([]string, api.Errno)
theorem tsz92 : tsz Tryd.prog 92 = some 1 := by kernel_rfl
theorem tby92 : tby Tryd.prog 92 = some 8 := by kernel_rfl
theorem tz92 : tzero Tryd.prog 92 = some (.nilFunc) := by kernel_rfl
theorem agg92 : aggB Tryd.prog 92 = some false := by simp [aggB, Tryd.underlying92]
attribute [go_sem] Tryd.underlying92 tsz92 tby92 tz92 agg92
-- t 94 func(string, string) ([]string, int)
theorem tsz94 : tsz Tryd.prog 94 = some 1 := by kernel_rfl
theorem tby94 : tby Tryd.prog 94 = some 8 := by kernel_rfl
theorem tz94 : tzero Tryd.prog 94 = some (.nilFunc) := by kernel_rfl
theorem agg94 : aggB Tryd.prog 94 = some false := by simp [aggB, Tryd.underlying94]
attribute [go_sem] Tryd.underlying94 tsz94 tby94 tz94 agg94
-- t 95 func([]string, []string) bool
theorem tsz95 : tsz Tryd.prog 95 = some 1 := by kernel_rfl
theorem tby95 : tby Tryd.prog 95 = some 8 := by kernel_rfl
theorem tz95 : tzero Tryd.prog 95 = some (.nilFunc) := by kernel_rfl
theorem agg95 : aggB Tryd.prog 95 = some false := by simp [aggB, Tryd.underlying95]
attribute [go_sem] Tryd.underlying95 tsz95 tby95 tz95 agg95
-- t 97 func(string, uint8) int
theorem tsz97 : tsz Tryd.prog 97 = some 1 := by kernel_rfl
theorem tby97 : tby Tryd.prog 97 = some 8 := by kernel_rfl
theorem tz97 : tzero Tryd.prog 97 = some (.nilFunc) := by kernel_rfl
theorem agg97 : aggB Tryd.prog 97 = some false := by simp [aggB, Tryd.underlying97]
attribute [go_sem] Tryd.underlying97 tsz97 tby97 tz97 agg97
-- t 98 func([]string)
theorem tsz98 : tsz Tryd.prog 98 = some 1 := by kernel_rfl
theorem tby98 : tby Tryd.prog 98 = some 8 := by kernel_rfl
theorem tz98 : tzero Tryd.prog 98 = some (.nilFunc) := by kernel_rfl
theorem agg98 : aggB Tryd.prog 98 = some false := by simp [aggB, Tryd.underlying98]
attribute [go_sem] Tryd.underlying98 tsz98 tby98 tz98 agg98
-- t 99 func(string, string, int, int) []string
theorem tsz99 : tsz Tryd.prog 99 = some 1 := by kernel_rfl
theorem tby99 : tby Tryd.prog 99 = some 8 := by kernel_rfl
theorem tz99 : tzero Tryd.prog 99 = some (.nilFunc) := by kernel_rfl
theorem agg99 : aggB Tryd.prog 99 = some false := by simp [aggB, Tryd.underlying99]
attribute [go_sem] Tryd.underlying99 tsz99 tby99 tz99 agg99
-- t 100 func([]string, func(string) bool) int
theorem tsz100 : tsz Tryd.prog 100 = some 1 := by kernel_rfl
theorem tby100 : tby Tryd.prog 100 = some 8 := by kernel_rfl
theorem tz100 : tzero Tryd.prog 100 = some (.nilFunc) := by kernel_rfl
theorem agg100 : aggB Tryd.prog 100 = some false := by simp [aggB, Tryd.underlying100]
attribute [go_sem] Tryd.underlying100 tsz100 tby100 tz100 agg100
-- t 101 func(string, uint8) []string
theorem tsz101 : tsz Tryd.prog 101 = some 1 := by kernel_rfl
theorem tby101 : tby Tryd.prog 101 = some 8 := by kernel_rfl
theorem tz101 : tzero Tryd.prog 101 = some (.nilFunc) := by kernel_rfl
theorem agg101 : aggB Tryd.prog 101 = some false := by simp [aggB, Tryd.underlying101]
attribute [go_sem] Tryd.underlying101 tsz101 tby101 tz101 agg101
-- t 102 func([]string, int, int, int)
theorem tsz102 : tsz Tryd.prog 102 = some 1 := by kernel_rfl
theorem tby102 : tby Tryd.prog 102 = some 8 := by kernel_rfl
theorem tz102 : tzero Tryd.prog 102 = some (.nilFunc) := by kernel_rfl
theorem agg102 : aggB Tryd.prog 102 = some false := by simp [aggB, Tryd.underlying102]
attribute [go_sem] Tryd.underlying102 tsz102 tby102 tz102 agg102
-- t 103 func(uint) int
theorem tsz103 : tsz Tryd.prog 103 = some 1 := by kernel_rfl
theorem tby103 : tby Tryd.prog 103 = some 8 := by kernel_rfl
theorem tz103 : tzero Tryd.prog 103 = some (.nilFunc) := by kernel_rfl
theorem agg103 : aggB Tryd.prog 103 = some false := by simp [aggB, Tryd.underlying103]
attribute [go_sem] Tryd.underlying103 tsz103 tby103 tz103 agg103
-- t 104 func([]string, iter.Seq[string]) []string
theorem tsz104 : tsz Tryd.prog 104 = some 1 := by kernel_rfl
theorem tby104 : tby Tryd.prog 104 = some 8 := by kernel_rfl
theorem tz104 : tzero Tryd.prog 104 = some (.nilFunc) := by kernel_rfl
theorem agg104 : aggB Tryd.prog 104 = some false := by simp [aggB, Tryd.underlying104]
attribute [go_sem] Tryd.underlying104 tsz104 tby104 tz104 agg104
-- t 105 func(string, string) bool
theorem tsz105 : tsz Tryd.prog 105 = some 1 := by kernel_rfl
theorem tby105 : tby Tryd.prog 105 = some 8 := by kernel_rfl
theorem tz105 : tzero Tryd.prog 105 = some (.nilFunc) := by kernel_rfl
theorem agg105 : aggB Tryd.prog 105 = some false := by simp [aggB, Tryd.underlying105]
attribute [go_sem] Tryd.underlying105 tsz105 tby105 tz105 agg105
-- t 106 func(string, int) []string
theorem tsz106 : tsz Tryd.prog 106 = some 1 := by kernel_rfl
theorem tby106 : tby Tryd.prog 106 = some 8 := by kernel_rfl
theorem tz106 : tzero Tryd.prog 106 = some (.nilFunc) := by kernel_rfl
theorem agg106 : aggB Tryd.prog 106 = some false := by simp [aggB, Tryd.underlying106]
attribute [go_sem] Tryd.underlying106 tsz106 tby106 tz106 agg106
-- t 107 func([]string, int, int)
theorem tsz107 : tsz Tryd.prog 107 = some 1 := by kernel_rfl
theorem tby107 : tby Tryd.prog 107 = some 8 := by kernel_rfl
theorem tz107 : tzero Tryd.prog 107 = some (.nilFunc) := by kernel_rfl
theorem agg107 : aggB Tryd.prog 107 = some false := by simp [aggB, Tryd.underlying107]
attribute [go_sem] Tryd.underlying107 tsz107 tby107 tz107 agg107
-- t 108 slices.sortedHint
theorem tsz108 : tsz Tryd.prog 108 = some 1 := by kernel_rfl
theorem tby108 : tby Tryd.prog 108 = some 8 := by kernel_rfl
theorem tz108 : tzero Tryd.prog 108 = some (.int .i64 0) := by kernel_rfl
theorem agg108 : aggB Tryd.prog 108 = some false := by simp [aggB, Tryd.underlying108]
attribute [go_sem] Tryd.underlying108 tsz108 tby108 tz108 agg108
-- t 110 func([]string, int, int) (int, slices.sortedHint)
theorem tsz110 : tsz Tryd.prog 110 = some 1 := by kernel_rfl
theorem tby110 : tby Tryd.prog 110 = some 8 := by kernel_rfl
theorem tz110 : tzero Tryd.prog 110 = some (.nilFunc) := by kernel_rfl
theorem agg110 : aggB Tryd.prog 110 = some false := by simp [aggB, Tryd.underlying110]
attribute [go_sem] Tryd.underlying110 tsz110 tby110 tz110 agg110
-- t 111 func([]string, int, int) bool
theorem tsz111 : tsz Tryd.prog 111 = some 1 := by kernel_rfl
theorem tby111 : tby Tryd.prog 111 = some 8 := by kernel_rfl
theorem tz111 : tzero Tryd.prog 111 = some (.nilFunc) := by kernel_rfl
theorem agg111 : aggB Tryd.prog 111 = some false := by simp [aggB, Tryd.underlying111]
attribute [go_sem] Tryd.underlying111 tsz111 tby111 tz111 agg111
-- t 112 func([]string, int, int, int) int
theorem tsz112 : tsz Tryd.prog 112 = some 1 := by kernel_rfl
theorem tby112 : tby Tryd.prog 112 = some 8 := by kernel_rfl
theorem tz112 : tzero Tryd.prog 112 = some (.nilFunc) := by kernel_rfl
theorem agg112 : aggB Tryd.prog 112 = some false := by simp [aggB, Tryd.underlying112]
attribute [go_sem] Tryd.underlying112 tsz112 tby112 tz112 agg112
-- t 114 func([]string, int, int, int) (int, bool)
theorem tsz114 : tsz Tryd.prog 114 = some 1 := by kernel_rfl
theorem tby114 : tby Tryd.prog 114 = some 8 := by kernel_rfl
theorem tz114 : tzero Tryd.prog 114 = some (.nilFunc) := by kernel_rfl
theorem agg114 : aggB Tryd.prog 114 = some false := by simp [aggB, Tryd.underlying114]
attribute [go_sem] Tryd.underlying114 tsz114 tby114 tz114 agg114
-- t 115 func(uint32) int
theorem tsz115 : tsz Tryd.prog 115 = some 1 := by kernel_rfl
theorem tby115 : tby Tryd.prog 115 = some 8 := by kernel_rfl
theorem tz115 : tzero Tryd.prog 115 = some (.nilFunc) := by kernel_rfl
theorem agg115 : aggB Tryd.prog 115 = some false := by simp [aggB, Tryd.underlying115]
attribute [go_sem] Tryd.underlying115 tsz115 tby115 tz115 agg115
-- t 116 uint32
theorem tsz116 : tsz Tryd.prog 116 = some 1 := by kernel_rfl
theorem tby116 : tby Tryd.prog 116 = some 4 := by kernel_rfl
theorem tz116 : tzero Tryd.prog 116 = some (.int .u32 0) := by kernel_rfl
theorem agg116 : aggB Tryd.prog 116 = some false := by simp [aggB, Tryd.underlying116]
attribute [go_sem] Tryd.underlying116 tsz116 tby116 tz116 agg116
-- t 117 func(uint64) int
theorem tsz117 : tsz Tryd.prog 117 = some 1 := by kernel_rfl
theorem tby117 : tby Tryd.prog 117 = some 8 := by kernel_rfl
theorem tz117 : tzero Tryd.prog 117 = some (.nilFunc) := by kernel_rfl
theorem agg117 : aggB Tryd.prog 117 = some false := by simp [aggB, Tryd.underlying117]
attribute [go_sem] Tryd.underlying117 tsz117 tby117 tz117 agg117
-- t 118 uint64
theorem tsz118 : tsz Tryd.prog 118 = some 1 := by kernel_rfl
theorem tby118 : tby Tryd.prog 118 = some 8 := by kernel_rfl
theorem tz118 : tzero Tryd.prog 118 = some (.int .u64 0) := by kernel_rfl
theorem agg118 : aggB Tryd.prog 118 = some false := by simp [aggB, Tryd.underlying118]
attribute [go_sem] Tryd.underlying118 tsz118 tby118 tz118 agg118
-- t 120 func(string) (int32, int)
theorem tsz120 : tsz Tryd.prog 120 = some 1 := by kernel_rfl
theorem tby120 : tby Tryd.prog 120 = some 8 := by kernel_rfl
theorem tz120 : tzero Tryd.prog 120 = some (.nilFunc) := by kernel_rfl
theorem agg120 : aggB Tryd.prog 120 = some false := by simp [aggB, Tryd.underlying120]
attribute [go_sem] Tryd.underlying120 tsz120 tby120 tz120 agg120
-- t 121 slices.xorshift
theorem tsz121 : tsz Tryd.prog 121 = some 1 := by kernel_rfl
theorem tby121 : tby Tryd.prog 121 = some 8 := by kernel_rfl
theorem tz121 : tzero Tryd.prog 121 = some (.int .u64 0) := by kernel_rfl
theorem agg121 : aggB Tryd.prog 121 = some false := by simp [aggB, Tryd.underlying121]
attribute [go_sem] Tryd.underlying121 tsz121 tby121 tz121 agg121
-- t 122 func(int) uint
theorem tsz122 : tsz Tryd.prog 122 = some 1 := by kernel_rfl
theorem tby122 : tby Tryd.prog 122 = some 8 := by kernel_rfl
theorem tz122 : tzero Tryd.prog 122 = some (.nilFunc) := by kernel_rfl
theorem agg122 : aggB Tryd.prog 122 = some false := by simp [aggB, Tryd.underlying122]
attribute [go_sem] Tryd.underlying122 tsz122 tby122 tz122 agg122
-- t 123 func() uint64
theorem tsz123 : tsz Tryd.prog 123 = some 1 := by kernel_rfl
theorem tby123 : tby Tryd.prog 123 = some 8 := by kernel_rfl
theorem tz123 : tzero Tryd.prog 123 = some (.nilFunc) := by kernel_rfl
theorem agg123 : aggB Tryd.prog 123 = some false := by simp [aggB, Tryd.underlying123]
attribute [go_sem] Tryd.underlying123 tsz123 tby123 tz123 agg123
-- t 124 func([]string, int, *int) int
theorem tsz124 : tsz Tryd.prog 124 = some 1 := by kernel_rfl
theorem tby124 : tby Tryd.prog 124 = some 8 := by kernel_rfl
theorem tz124 : tzero Tryd.prog 124 = some (.nilFunc) := by kernel_rfl
theorem agg124 : aggB Tryd.prog 124 = some false := by simp [aggB, Tryd.underlying124]
attribute [go_sem] Tryd.underlying124 tsz124 tby124 tz124 agg124
-- t 125 *int
theorem tsz125 : tsz Tryd.prog 125 = some 1 := by kernel_rfl
theorem tby125 : tby Tryd.prog 125 = some 8 := by kernel_rfl
theorem tz125 : tzero Tryd.prog 125 = some (.pointer none) := by kernel_rfl
theorem agg125 : aggB Tryd.prog 125 = some false := by simp [aggB, Tryd.underlying125]
attribute [go_sem] Tryd.underlying125 tsz125 tby125 tz125 agg125
-- t 126 func([]string, int, int, int, *int) int
theorem tsz126 : tsz Tryd.prog 126 = some 1 := by kernel_rfl
theorem tby126 : tby Tryd.prog 126 = some 8 := by kernel_rfl
theorem tz126 : tzero Tryd.prog 126 = some (.nilFunc) := by kernel_rfl
theorem agg126 : aggB Tryd.prog 126 = some false := by simp [aggB, Tryd.underlying126]
attribute [go_sem] Tryd.underlying126 tsz126 tby126 tz126 agg126
-- t 127 func(int) int
theorem tsz127 : tsz Tryd.prog 127 = some 1 := by kernel_rfl
theorem tby127 : tby Tryd.prog 127 = some 8 := by kernel_rfl
theorem tz127 : tzero Tryd.prog 127 = some (.nilFunc) := by kernel_rfl
theorem agg127 : aggB Tryd.prog 127 = some false := by simp [aggB, Tryd.underlying127]
attribute [go_sem] Tryd.underlying127 tsz127 tby127 tz127 agg127
-- t 128 *slices.xorshift
theorem tsz128 : tsz Tryd.prog 128 = some 1 := by kernel_rfl
theorem tby128 : tby Tryd.prog 128 = some 8 := by kernel_rfl
theorem tz128 : tzero Tryd.prog 128 = some (.pointer none) := by kernel_rfl
theorem agg128 : aggB Tryd.prog 128 = some false := by simp [aggB, Tryd.underlying128]
attribute [go_sem] Tryd.underlying128 tsz128 tby128 tz128 agg128
-- t 129 func([]string, int, int, *int) (int, int)
theorem tsz129 : tsz Tryd.prog 129 = some 1 := by kernel_rfl
theorem tby129 : tby Tryd.prog 129 = some 8 := by kernel_rfl
theorem tz129 : tzero Tryd.prog 129 = some (.nilFunc) := by kernel_rfl
theorem agg129 : aggB Tryd.prog 129 = some false := by simp [aggB, Tryd.underlying129]
attribute [go_sem] Tryd.underlying129 tsz129 tby129 tz129 agg129
-- t 130 [256]uint8
theorem tsz130 : tsz Tryd.prog 130 = some 256 := by kernel_rfl
theorem tby130 : tby Tryd.prog 130 = some 256 := by kernel_rfl
theorem agg130 : aggB Tryd.prog 130 = some true := by simp [aggB, Tryd.underlying130]
attribute [go_sem] Tryd.underlying130 tsz130 tby130 agg130
-- t 131 struct ( lo uint8; hi uint8 )
theorem tsz131 : tsz Tryd.prog 131 = some 2 := by kernel_rfl
theorem tby131 : tby Tryd.prog 131 = some 2 := by kernel_rfl
theorem tz131 : tzero Tryd.prog 131 = some (.agg #[.int .u8 0, .int .u8 0]) := by kernel_rfl
theorem agg131 : aggB Tryd.prog 131 = some true := by simp [aggB, Tryd.underlying131]
attribute [go_sem] Tryd.underlying131 tsz131 tby131 tz131 agg131
-- t 132 utf8.acceptRange = unicode/utf8.acceptRange
theorem tsz132 : tsz Tryd.prog 132 = some 2 := by kernel_rfl
theorem tby132 : tby Tryd.prog 132 = some 2 := by kernel_rfl
theorem tz132 : tzero Tryd.prog 132 = some (.agg #[.int .u8 0, .int .u8 0]) := by kernel_rfl
theorem agg132 : aggB Tryd.prog 132 = some true := by simp [aggB, Tryd.underlying132]
attribute [go_sem] Tryd.underlying132 tsz132 tby132 tz132 agg132
-- t 133 [16]utf8.acceptRange
theorem tsz133 : tsz Tryd.prog 133 = some 32 := by kernel_rfl
theorem tby133 : tby Tryd.prog 133 = some 32 := by kernel_rfl
theorem tz133 : tzero Tryd.prog 133 = some (.agg #[.int .u8 0, .int .u8 0, .int .u8 0, .int .u8 0, .int .u8 0, .int .u8 0, .int .u8 0, .int .u8 0, .int .u8 0, .int .u8 0, .int .u8 0, .int .u8 0, .int .u8 0, .int .u8 0, .int .u8 0, .int .u8 0, .int .u8 0, .int .u8 0, .int .u8 0, .int .u8 0, .int .u8 0, .int .u8 0, .int .u8 0, .int .u8 0, .int .u8 0, .int .u8 0, .int .u8 0, .int .u8 0, .int .u8 0, .int .u8 0, .int .u8 0, .int .u8 0]) := by kernel_rfl
theorem agg133 : aggB Tryd.prog 133 = some true := by simp [aggB, Tryd.underlying133]
attribute [go_sem] Tryd.underlying133 tsz133 tby133 tz133 agg133
-- t 135 func(string) (uint32, uint32)
theorem tsz135 : tsz Tryd.prog 135 = some 1 := by kernel_rfl
theorem tby135 : tby Tryd.prog 135 = some 8 := by kernel_rfl
theorem tz135 : tzero Tryd.prog 135 = some (.nilFunc) := by kernel_rfl
theorem agg135 : aggB Tryd.prog 135 = some false := by simp [aggB, Tryd.underlying135]
attribute [go_sem] Tryd.underlying135 tsz135 tby135 tz135 agg135
-- t 136 func() string
theorem tsz136 : tsz Tryd.prog 136 = some 1 := by kernel_rfl
theorem tby136 : tby Tryd.prog 136 = some 8 := by kernel_rfl
theorem tz136 : tzero Tryd.prog 136 = some (.nilFunc) := by kernel_rfl
theorem agg136 : aggB Tryd.prog 136 = some false := by simp [aggB, Tryd.underlying136]
attribute [go_sem] Tryd.underlying136 tsz136 tby136 tz136 agg136
-- t 142 func() int
theorem tsz142 : tsz Tryd.prog 142 = some 1 := by kernel_rfl
theorem tby142 : tby Tryd.prog 142 = some 8 := by kernel_rfl
theorem tz142 : tzero Tryd.prog 142 = some (.nilFunc) := by kernel_rfl
theorem agg142 : aggB Tryd.prog 142 = some false := by simp [aggB, Tryd.underlying142]
attribute [go_sem] Tryd.underlying142 tsz142 tby142 tz142 agg142
-- t 146 *uint8
theorem tsz146 : tsz Tryd.prog 146 = some 1 := by kernel_rfl
theorem tby146 : tby Tryd.prog 146 = some 8 := by kernel_rfl
theorem tz146 : tzero Tryd.prog 146 = some (.pointer none) := by kernel_rfl
theorem agg146 : aggB Tryd.prog 146 = some false := by simp [aggB, Tryd.underlying146]
attribute [go_sem] Tryd.underlying146 tsz146 tby146 tz146 agg146
end L19
