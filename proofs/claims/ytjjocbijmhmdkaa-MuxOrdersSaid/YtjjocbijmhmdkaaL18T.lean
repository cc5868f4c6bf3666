import Derived.Test.YtjjocbijmhmdkaaProg
import Derived.KernelRfl
import Derived.Test.YtjjocbijmhmdkaaAbLibD
open Go Ab Go.Proofs
namespace L18
set_option autoImplicit false
set_option linter.unusedSimpArgs false
set_option linter.unusedVariables false

theorem hmix : Try.prog.follows .mixedOrders = true := by kernel_rfl
-- t 1 func()
theorem tsz1 : tsz Try.prog 1 = some 1 := by kernel_rfl
theorem tby1 : tby Try.prog 1 = some 8 := by kernel_rfl
theorem tz1 : tzero Try.prog 1 = some (.nilFunc) := by kernel_rfl
theorem agg1 : aggB Try.prog 1 = some false := by simp [aggB, Try.underlying1]
attribute [go_sem] Try.underlying1 tsz1 tby1 tz1 agg1
-- t 2 int64
theorem tsz2 : tsz Try.prog 2 = some 1 := by kernel_rfl
theorem tby2 : tby Try.prog 2 = some 8 := by kernel_rfl
theorem tz2 : tzero Try.prog 2 = some (.int .i64 0) := by kernel_rfl
theorem agg2 : aggB Try.prog 2 = some false := by simp [aggB, Try.underlying2]
attribute [go_sem] Try.underlying2 tsz2 tby2 tz2 agg2
-- t 3 int
theorem tsz3 : tsz Try.prog 3 = some 1 := by kernel_rfl
theorem tby3 : tby Try.prog 3 = some 8 := by kernel_rfl
theorem tz3 : tzero Try.prog 3 = some (.int .i64 0) := by kernel_rfl
theorem agg3 : aggB Try.prog 3 = some false := by simp [aggB, Try.underlying3]
attribute [go_sem] Try.underlying3 tsz3 tby3 tz3 agg3
-- t 4 bool
theorem tsz4 : tsz Try.prog 4 = some 1 := by kernel_rfl
theorem tby4 : tby Try.prog 4 = some 1 := by kernel_rfl
theorem tz4 : tzero Try.prog 4 = some (.bool false) := by kernel_rfl
theorem agg4 : aggB Try.prog 4 = some false := by simp [aggB, Try.underlying4]
attribute [go_sem] Try.underlying4 tsz4 tby4 tz4 agg4
-- t 5 uint8
theorem tsz5 : tsz Try.prog 5 = some 1 := by kernel_rfl
theorem tby5 : tby Try.prog 5 = some 1 := by kernel_rfl
theorem tz5 : tzero Try.prog 5 = some (.int .u8 0) := by kernel_rfl
theorem agg5 : aggB Try.prog 5 = some false := by simp [aggB, Try.underlying5]
attribute [go_sem] Try.underlying5 tsz5 tby5 tz5 agg5
-- t 9 string
theorem tsz9 : tsz Try.prog 9 = some 1 := by kernel_rfl
theorem tby9 : tby Try.prog 9 = some 16 := by kernel_rfl
theorem tz9 : tzero Try.prog 9 = some (.string ⟨#[]⟩) := by kernel_rfl
theorem agg9 : aggB Try.prog 9 = some false := by simp [aggB, Try.underlying9]
theorem nI9 : noInt Try.prog 9 = true := by simp [noInt, Try.underlying9]
attribute [go_sem] Try.underlying9 tsz9 tby9 tz9 agg9 nI9
-- t 20 interface ()
theorem tsz20 : tsz Try.prog 20 = some 1 := by kernel_rfl
theorem tby20 : tby Try.prog 20 = some 16 := by kernel_rfl
theorem tz20 : tzero Try.prog 20 = some (.nilIface) := by kernel_rfl
theorem agg20 : aggB Try.prog 20 = some false := by simp [aggB, Try.underlying20]
attribute [go_sem] Try.underlying20 tsz20 tby20 tz20 agg20
-- t 21 int32
theorem tsz21 : tsz Try.prog 21 = some 1 := by kernel_rfl
theorem tby21 : tby Try.prog 21 = some 4 := by kernel_rfl
theorem tz21 : tzero Try.prog 21 = some (.int .i32 0) := by kernel_rfl
theorem agg21 : aggB Try.prog 21 = some false := by simp [aggB, Try.underlying21]
attribute [go_sem] Try.underlying21 tsz21 tby21 tz21 agg21
-- t 22 []gangwaylaw18.Op
theorem tsz22 : tsz Try.prog 22 = some 1 := by kernel_rfl
theorem tby22 : tby Try.prog 22 = some 24 := by kernel_rfl
theorem tz22 : tzero Try.prog 22 = some (.slice none 0 0) := by kernel_rfl
theorem agg22 : aggB Try.prog 22 = some false := by simp [aggB, Try.underlying22]
theorem nI22 : noInt Try.prog 22 = true := by simp [noInt, Try.underlying22]
attribute [go_sem] Try.underlying22 tsz22 tby22 tz22 agg22 nI22
-- t 23 func() bool
theorem tsz23 : tsz Try.prog 23 = some 1 := by kernel_rfl
theorem tby23 : tby Try.prog 23 = some 8 := by kernel_rfl
theorem tz23 : tzero Try.prog 23 = some (.nilFunc) := by kernel_rfl
theorem agg23 : aggB Try.prog 23 = some false := by simp [aggB, Try.underlying23]
attribute [go_sem] Try.underlying23 tsz23 tby23 tz23 agg23
-- t 24 func([]gangwaylaw18.Op) bool
theorem tsz24 : tsz Try.prog 24 = some 1 := by kernel_rfl
theorem tby24 : tby Try.prog 24 = some 8 := by kernel_rfl
theorem tz24 : tzero Try.prog 24 = some (.nilFunc) := by kernel_rfl
theorem agg24 : aggB Try.prog 24 = some false := by simp [aggB, Try.underlying24]
attribute [go_sem] Try.underlying24 tsz24 tby24 tz24 agg24
-- t 25 *mux.Mux
theorem tsz25 : tsz Try.prog 25 = some 1 := by kernel_rfl
theorem tby25 : tby Try.prog 25 = some 8 := by kernel_rfl
theorem tz25 : tzero Try.prog 25 = some (.pointer none) := by kernel_rfl
theorem agg25 : aggB Try.prog 25 = some false := by simp [aggB, Try.underlying25]
attribute [go_sem] Try.underlying25 tsz25 tby25 tz25 agg25
-- t 26 func() *mux.Mux
theorem tsz26 : tsz Try.prog 26 = some 1 := by kernel_rfl
theorem tby26 : tby Try.prog 26 = some 8 := by kernel_rfl
theorem tz26 : tzero Try.prog 26 = some (.nilFunc) := by kernel_rfl
theorem agg26 : aggB Try.prog 26 = some false := by simp [aggB, Try.underlying26]
attribute [go_sem] Try.underlying26 tsz26 tby26 tz26 agg26
-- t 27 [4]int
theorem tsz27 : tsz Try.prog 27 = some 4 := by kernel_rfl
theorem tby27 : tby Try.prog 27 = some 32 := by kernel_rfl
theorem tz27 : tzero Try.prog 27 = some (.agg #[.int .i64 0, .int .i64 0, .int .i64 0, .int .i64 0]) := by kernel_rfl
theorem agg27 : aggB Try.prog 27 = some true := by simp [aggB, Try.underlying27]
attribute [go_sem] Try.underlying27 tsz27 tby27 tz27 agg27
-- t 28 []uint8
theorem tsz28 : tsz Try.prog 28 = some 1 := by kernel_rfl
theorem tby28 : tby Try.prog 28 = some 24 := by kernel_rfl
theorem tz28 : tzero Try.prog 28 = some (.slice none 0 0) := by kernel_rfl
theorem agg28 : aggB Try.prog 28 = some false := by simp [aggB, Try.underlying28]
theorem nI28 : noInt Try.prog 28 = true := by simp [noInt, Try.underlying28]
attribute [go_sem] Try.underlying28 tsz28 tby28 tz28 agg28 nI28
-- t 29 struct ( Channel int; Body []uint8 )
theorem tsz29 : tsz Try.prog 29 = some 2 := by kernel_rfl
theorem tby29 : tby Try.prog 29 = some 32 := by kernel_rfl
theorem tz29 : tzero Try.prog 29 = some (.agg #[.int .i64 0, .slice none 0 0]) := by kernel_rfl
theorem agg29 : aggB Try.prog 29 = some true := by simp [aggB, Try.underlying29]
attribute [go_sem] Try.underlying29 tsz29 tby29 tz29 agg29
-- t 30 api.Frame = gangway/api.Frame
theorem tsz30 : tsz Try.prog 30 = some 2 := by kernel_rfl
theorem tby30 : tby Try.prog 30 = some 32 := by kernel_rfl
theorem tz30 : tzero Try.prog 30 = some (.agg #[.int .i64 0, .slice none 0 0]) := by kernel_rfl
theorem agg30 : aggB Try.prog 30 = some true := by simp [aggB, Try.underlying30]
attribute [go_sem] Try.underlying30 tsz30 tby30 tz30 agg30
-- t 31 struct ( Kind int; Side int; Channel int; Size int; Frame api.Frame )
theorem tsz31 : tsz Try.prog 31 = some 6 := by kernel_rfl
theorem tby31 : tby Try.prog 31 = some 64 := by kernel_rfl
theorem tz31 : tzero Try.prog 31 = some (.agg #[.int .i64 0, .int .i64 0, .int .i64 0, .int .i64 0, .int .i64 0, .slice none 0 0]) := by kernel_rfl
theorem agg31 : aggB Try.prog 31 = some true := by simp [aggB, Try.underlying31]
attribute [go_sem] Try.underlying31 tsz31 tby31 tz31 agg31
-- t 32 gangwaylaw18.Op = gangway/gangwaylaw18.Op
theorem tsz32 : tsz Try.prog 32 = some 6 := by kernel_rfl
theorem tby32 : tby Try.prog 32 = some 64 := by kernel_rfl
theorem tz32 : tzero Try.prog 32 = some (.agg #[.int .i64 0, .int .i64 0, .int .i64 0, .int .i64 0, .int .i64 0, .slice none 0 0]) := by kernel_rfl
theorem agg32 : aggB Try.prog 32 = some true := by simp [aggB, Try.underlying32]
attribute [go_sem] Try.underlying32 tsz32 tby32 tz32 agg32
-- t 33 api.Errno = gangway/api.Errno
theorem tsz33 : tsz Try.prog 33 = some 1 := by kernel_rfl
theorem tby33 : tby Try.prog 33 = some 8 := by kernel_rfl
theorem tz33 : tzero Try.prog 33 = some (.int .i64 0) := by kernel_rfl
theorem agg33 : aggB Try.prog 33 = some false := by simp [aggB, Try.underlying33]
attribute [go_sem] Try.underlying33 tsz33 tby33 tz33 agg33
-- t 34 func(int, []uint8) api.Errno
theorem tsz34 : tsz Try.prog 34 = some 1 := by kernel_rfl
theorem tby34 : tby Try.prog 34 = some 8 := by kernel_rfl
theorem tz34 : tzero Try.prog 34 = some (.nilFunc) := by kernel_rfl
theorem agg34 : aggB Try.prog 34 = some false := by simp [aggB, Try.underlying34]
attribute [go_sem] Try.underlying34 tsz34 tby34 tz34 agg34
-- t 35 func(int, int) []uint8
theorem tsz35 : tsz Try.prog 35 = some 1 := by kernel_rfl
theorem tby35 : tby Try.prog 35 = some 8 := by kernel_rfl
theorem tz35 : tzero Try.prog 35 = some (.nilFunc) := by kernel_rfl
theorem agg35 : aggB Try.prog 35 = some false := by simp [aggB, Try.underlying35]
attribute [go_sem] Try.underlying35 tsz35 tby35 tz35 agg35
-- t 36 func(gangwaylaw18.Op) int
theorem tsz36 : tsz Try.prog 36 = some 1 := by kernel_rfl
theorem tby36 : tby Try.prog 36 = some 8 := by kernel_rfl
theorem tz36 : tzero Try.prog 36 = some (.nilFunc) := by kernel_rfl
theorem agg36 : aggB Try.prog 36 = some false := by simp [aggB, Try.underlying36]
attribute [go_sem] Try.underlying36 tsz36 tby36 tz36 agg36
-- t 37 func(api.Frame) api.Errno
theorem tsz37 : tsz Try.prog 37 = some 1 := by kernel_rfl
theorem tby37 : tby Try.prog 37 = some 8 := by kernel_rfl
theorem tz37 : tzero Try.prog 37 = some (.nilFunc) := by kernel_rfl
theorem agg37 : aggB Try.prog 37 = some false := by simp [aggB, Try.underlying37]
attribute [go_sem] Try.underlying37 tsz37 tby37 tz37 agg37
-- t 38 uint
theorem tsz38 : tsz Try.prog 38 = some 1 := by kernel_rfl
theorem tby38 : tby Try.prog 38 = some 8 := by kernel_rfl
theorem tz38 : tzero Try.prog 38 = some (.int .u64 0) := by kernel_rfl
theorem agg38 : aggB Try.prog 38 = some false := by simp [aggB, Try.underlying38]
attribute [go_sem] Try.underlying38 tsz38 tby38 tz38 agg38
-- t 39 []api.Frame
theorem tsz39 : tsz Try.prog 39 = some 1 := by kernel_rfl
theorem tby39 : tby Try.prog 39 = some 24 := by kernel_rfl
theorem tz39 : tzero Try.prog 39 = some (.slice none 0 0) := by kernel_rfl
theorem agg39 : aggB Try.prog 39 = some false := by simp [aggB, Try.underlying39]
theorem nI39 : noInt Try.prog 39 = true := by simp [noInt, Try.underlying39]
attribute [go_sem] Try.underlying39 tsz39 tby39 tz39 agg39 nI39
-- t 40 func() []api.Frame
theorem tsz40 : tsz Try.prog 40 = some 1 := by kernel_rfl
theorem tby40 : tby Try.prog 40 = some 8 := by kernel_rfl
theorem tz40 : tzero Try.prog 40 = some (.nilFunc) := by kernel_rfl
theorem agg40 : aggB Try.prog 40 = some false := by simp [aggB, Try.underlying40]
attribute [go_sem] Try.underlying40 tsz40 tby40 tz40 agg40
-- t 41 func(int) api.Errno
theorem tsz41 : tsz Try.prog 41 = some 1 := by kernel_rfl
theorem tby41 : tby Try.prog 41 = some 8 := by kernel_rfl
theorem tz41 : tzero Try.prog 41 = some (.nilFunc) := by kernel_rfl
theorem agg41 : aggB Try.prog 41 = some false := by simp [aggB, Try.underlying41]
attribute [go_sem] Try.underlying41 tsz41 tby41 tz41 agg41
-- t 42 func(int) bool
theorem tsz42 : tsz Try.prog 42 = some 1 := by kernel_rfl
theorem tby42 : tby Try.prog 42 = some 8 := by kernel_rfl
theorem tz42 : tzero Try.prog 42 = some (.nilFunc) := by kernel_rfl
theorem agg42 : aggB Try.prog 42 = some false := by simp [aggB, Try.underlying42]
attribute [go_sem] Try.underlying42 tsz42 tby42 tz42 agg42
-- t 43 func([]uint8, int, []gangwaylaw18.Op) bool
theorem tsz43 : tsz Try.prog 43 = some 1 := by kernel_rfl
theorem tby43 : tby Try.prog 43 = some 8 := by kernel_rfl
theorem tz43 : tzero Try.prog 43 = some (.nilFunc) := by kernel_rfl
theorem agg43 : aggB Try.prog 43 = some false := by simp [aggB, Try.underlying43]
attribute [go_sem] Try.underlying43 tsz43 tby43 tz43 agg43
-- t 44 *gangwayref18.Mux
theorem tsz44 : tsz Try.prog 44 = some 1 := by kernel_rfl
theorem tby44 : tby Try.prog 44 = some 8 := by kernel_rfl
theorem tz44 : tzero Try.prog 44 = some (.pointer none) := by kernel_rfl
theorem agg44 : aggB Try.prog 44 = some false := by simp [aggB, Try.underlying44]
attribute [go_sem] Try.underlying44 tsz44 tby44 tz44 agg44
-- t 45 func() *gangwayref18.Mux
theorem tsz45 : tsz Try.prog 45 = some 1 := by kernel_rfl
theorem tby45 : tby Try.prog 45 = some 8 := by kernel_rfl
theorem tz45 : tzero Try.prog 45 = some (.nilFunc) := by kernel_rfl
theorem agg45 : aggB Try.prog 45 = some false := by simp [aggB, Try.underlying45]
attribute [go_sem] Try.underlying45 tsz45 tby45 tz45 agg45
-- t 46 func(int, []uint8) int
theorem tsz46 : tsz Try.prog 46 = some 1 := by kernel_rfl
theorem tby46 : tby Try.prog 46 = some 8 := by kernel_rfl
theorem tz46 : tzero Try.prog 46 = some (.nilFunc) := by kernel_rfl
theorem agg46 : aggB Try.prog 46 = some false := by simp [aggB, Try.underlying46]
attribute [go_sem] Try.underlying46 tsz46 tby46 tz46 agg46
-- t 47 func(int) int
theorem tsz47 : tsz Try.prog 47 = some 1 := by kernel_rfl
theorem tby47 : tby Try.prog 47 = some 8 := by kernel_rfl
theorem tz47 : tzero Try.prog 47 = some (.nilFunc) := by kernel_rfl
theorem agg47 : aggB Try.prog 47 = some false := by simp [aggB, Try.underlying47]
attribute [go_sem] Try.underlying47 tsz47 tby47 tz47 agg47
-- t 48 func([]api.Frame, []api.Frame) bool
theorem tsz48 : tsz Try.prog 48 = some 1 := by kernel_rfl
theorem tby48 : tby Try.prog 48 = some 8 := by kernel_rfl
theorem tz48 : tzero Try.prog 48 = some (.nilFunc) := by kernel_rfl
theorem agg48 : aggB Try.prog 48 = some false := by simp [aggB, Try.underlying48]
attribute [go_sem] Try.underlying48 tsz48 tby48 tz48 agg48
-- t 49 func(api.Frame) int
theorem tsz49 : tsz Try.prog 49 = some 1 := by kernel_rfl
theorem tby49 : tby Try.prog 49 = some 8 := by kernel_rfl
theorem tz49 : tzero Try.prog 49 = some (.nilFunc) := by kernel_rfl
theorem agg49 : aggB Try.prog 49 = some false := by simp [aggB, Try.underlying49]
attribute [go_sem] Try.underlying49 tsz49 tby49 tz49 agg49
-- t 50 *gangwaylaw18.pair
theorem tsz50 : tsz Try.prog 50 = some 1 := by kernel_rfl
theorem tby50 : tby Try.prog 50 = some 8 := by kernel_rfl
theorem tz50 : tzero Try.prog 50 = some (.pointer none) := by kernel_rfl
theorem agg50 : aggB Try.prog 50 = some false := by simp [aggB, Try.underlying50]
attribute [go_sem] Try.underlying50 tsz50 tby50 tz50 agg50
-- t 51 [2]*mux.Mux
theorem tsz51 : tsz Try.prog 51 = some 2 := by kernel_rfl
theorem tby51 : tby Try.prog 51 = some 16 := by kernel_rfl
theorem tz51 : tzero Try.prog 51 = some (.agg #[.pointer none, .pointer none]) := by kernel_rfl
theorem agg51 : aggB Try.prog 51 = some true := by simp [aggB, Try.underlying51]
attribute [go_sem] Try.underlying51 tsz51 tby51 tz51 agg51
-- t 52 [2][]api.Frame
theorem tsz52 : tsz Try.prog 52 = some 2 := by kernel_rfl
theorem tby52 : tby Try.prog 52 = some 48 := by kernel_rfl
theorem tz52 : tzero Try.prog 52 = some (.agg #[.slice none 0 0, .slice none 0 0]) := by kernel_rfl
theorem agg52 : aggB Try.prog 52 = some true := by simp [aggB, Try.underlying52]
attribute [go_sem] Try.underlying52 tsz52 tby52 tz52 agg52
-- t 53 [4][]uint8
theorem tsz53 : tsz Try.prog 53 = some 4 := by kernel_rfl
theorem tby53 : tby Try.prog 53 = some 96 := by kernel_rfl
theorem tz53 : tzero Try.prog 53 = some (.agg #[.slice none 0 0, .slice none 0 0, .slice none 0 0, .slice none 0 0]) := by kernel_rfl
theorem agg53 : aggB Try.prog 53 = some true := by simp [aggB, Try.underlying53]
attribute [go_sem] Try.underlying53 tsz53 tby53 tz53 agg53
-- t 54 [2][4][]uint8
theorem tsz54 : tsz Try.prog 54 = some 8 := by kernel_rfl
theorem tby54 : tby Try.prog 54 = some 192 := by kernel_rfl
theorem tz54 : tzero Try.prog 54 = some (.agg #[.slice none 0 0, .slice none 0 0, .slice none 0 0, .slice none 0 0, .slice none 0 0, .slice none 0 0, .slice none 0 0, .slice none 0 0]) := by kernel_rfl
theorem agg54 : aggB Try.prog 54 = some true := by simp [aggB, Try.underlying54]
attribute [go_sem] Try.underlying54 tsz54 tby54 tz54 agg54
-- t 55 [4]bool
theorem tsz55 : tsz Try.prog 55 = some 4 := by kernel_rfl
theorem tby55 : tby Try.prog 55 = some 4 := by kernel_rfl
theorem tz55 : tzero Try.prog 55 = some (.agg #[.bool false, .bool false, .bool false, .bool false]) := by kernel_rfl
theorem agg55 : aggB Try.prog 55 = some true := by simp [aggB, Try.underlying55]
attribute [go_sem] Try.underlying55 tsz55 tby55 tz55 agg55
-- t 56 [2][4]bool
theorem tsz56 : tsz Try.prog 56 = some 8 := by kernel_rfl
theorem tby56 : tby Try.prog 56 = some 8 := by kernel_rfl
theorem tz56 : tzero Try.prog 56 = some (.agg #[.bool false, .bool false, .bool false, .bool false, .bool false, .bool false, .bool false, .bool false]) := by kernel_rfl
theorem agg56 : aggB Try.prog 56 = some true := by simp [aggB, Try.underlying56]
attribute [go_sem] Try.underlying56 tsz56 tby56 tz56 agg56
-- t 57 struct ( m [2]*mux.Mux; way [2][]api.Frame; wrote [2][4][]uint8; read [2][4][]uint8; closed [2][4]bool )
theorem tsz57 : tsz Try.prog 57 = some 28 := by kernel_rfl
theorem tby57 : tby Try.prog 57 = some 456 := by kernel_rfl
theorem tz57 : tzero Try.prog 57 = some (.agg #[.pointer none, .pointer none, .slice none 0 0, .slice none 0 0, .slice none 0 0, .slice none 0 0, .slice none 0 0, .slice none 0 0, .slice none 0 0, .slice none 0 0, .slice none 0 0, .slice none 0 0, .slice none 0 0, .slice none 0 0, .slice none 0 0, .slice none 0 0, .slice none 0 0, .slice none 0 0, .slice none 0 0, .slice none 0 0, .bool false, .bool false, .bool false, .bool false, .bool false, .bool false, .bool false, .bool false]) := by kernel_rfl
theorem agg57 : aggB Try.prog 57 = some true := by simp [aggB, Try.underlying57]
attribute [go_sem] Try.underlying57 tsz57 tby57 tz57 agg57
-- t 58 gangwaylaw18.pair = gangway/gangwaylaw18.pair
theorem tsz58 : tsz Try.prog 58 = some 28 := by kernel_rfl
theorem tby58 : tby Try.prog 58 = some 456 := by kernel_rfl
theorem tz58 : tzero Try.prog 58 = some (.agg #[.pointer none, .pointer none, .slice none 0 0, .slice none 0 0, .slice none 0 0, .slice none 0 0, .slice none 0 0, .slice none 0 0, .slice none 0 0, .slice none 0 0, .slice none 0 0, .slice none 0 0, .slice none 0 0, .slice none 0 0, .slice none 0 0, .slice none 0 0, .slice none 0 0, .slice none 0 0, .slice none 0 0, .slice none 0 0, .bool false, .bool false, .bool false, .bool false, .bool false, .bool false, .bool false, .bool false]) := by kernel_rfl
theorem agg58 : aggB Try.prog 58 = some true := by simp [aggB, Try.underlying58]
attribute [go_sem] Try.underlying58 tsz58 tby58 tz58 agg58
-- t 59 func(gangwaylaw18.Op, int) bool
theorem tsz59 : tsz Try.prog 59 = some 1 := by kernel_rfl
theorem tby59 : tby Try.prog 59 = some 8 := by kernel_rfl
theorem tz59 : tzero Try.prog 59 = some (.nilFunc) := by kernel_rfl
theorem agg59 : aggB Try.prog 59 = some false := by simp [aggB, Try.underlying59]
attribute [go_sem] Try.underlying59 tsz59 tby59 tz59 agg59
-- t 60 func(int, int) bool
theorem tsz60 : tsz Try.prog 60 = some 1 := by kernel_rfl
theorem tby60 : tby Try.prog 60 = some 8 := by kernel_rfl
theorem tz60 : tzero Try.prog 60 = some (.nilFunc) := by kernel_rfl
theorem agg60 : aggB Try.prog 60 = some false := by simp [aggB, Try.underlying60]
attribute [go_sem] Try.underlying60 tsz60 tby60 tz60 agg60
-- t 61 func(int, int, int) bool
theorem tsz61 : tsz Try.prog 61 = some 1 := by kernel_rfl
theorem tby61 : tby Try.prog 61 = some 8 := by kernel_rfl
theorem tz61 : tzero Try.prog 61 = some (.nilFunc) := by kernel_rfl
theorem agg61 : aggB Try.prog 61 = some false := by simp [aggB, Try.underlying61]
attribute [go_sem] Try.underlying61 tsz61 tby61 tz61 agg61
-- t 62 struct ( wait []uint8; credit int; closed bool; told bool )
theorem tsz62 : tsz Try.prog 62 = some 4 := by kernel_rfl
theorem tby62 : tby Try.prog 62 = some 40 := by kernel_rfl
theorem tz62 : tzero Try.prog 62 = some (.agg #[.slice none 0 0, .int .i64 0, .bool false, .bool false]) := by kernel_rfl
theorem agg62 : aggB Try.prog 62 = some true := by simp [aggB, Try.underlying62]
attribute [go_sem] Try.underlying62 tsz62 tby62 tz62 agg62
-- t 63 mux.half = gangway/mux.half
theorem tsz63 : tsz Try.prog 63 = some 4 := by kernel_rfl
theorem tby63 : tby Try.prog 63 = some 40 := by kernel_rfl
theorem tz63 : tzero Try.prog 63 = some (.agg #[.slice none 0 0, .int .i64 0, .bool false, .bool false]) := by kernel_rfl
theorem agg63 : aggB Try.prog 63 = some true := by simp [aggB, Try.underlying63]
attribute [go_sem] Try.underlying63 tsz63 tby63 tz63 agg63
-- t 64 [4]mux.half
theorem tsz64 : tsz Try.prog 64 = some 16 := by kernel_rfl
theorem tby64 : tby Try.prog 64 = some 160 := by kernel_rfl
theorem tz64 : tzero Try.prog 64 = some (.agg #[.slice none 0 0, .int .i64 0, .bool false, .bool false, .slice none 0 0, .int .i64 0, .bool false, .bool false, .slice none 0 0, .int .i64 0, .bool false, .bool false, .slice none 0 0, .int .i64 0, .bool false, .bool false]) := by kernel_rfl
theorem agg64 : aggB Try.prog 64 = some true := by simp [aggB, Try.underlying64]
attribute [go_sem] Try.underlying64 tsz64 tby64 tz64 agg64
-- t 65 struct ( come []uint8; room int; untold int; ended bool )
theorem tsz65 : tsz Try.prog 65 = some 4 := by kernel_rfl
theorem tby65 : tby Try.prog 65 = some 48 := by kernel_rfl
theorem tz65 : tzero Try.prog 65 = some (.agg #[.slice none 0 0, .int .i64 0, .int .i64 0, .bool false]) := by kernel_rfl
theorem agg65 : aggB Try.prog 65 = some true := by simp [aggB, Try.underlying65]
attribute [go_sem] Try.underlying65 tsz65 tby65 tz65 agg65
-- t 66 mux.other = gangway/mux.other
theorem tsz66 : tsz Try.prog 66 = some 4 := by kernel_rfl
theorem tby66 : tby Try.prog 66 = some 48 := by kernel_rfl
theorem tz66 : tzero Try.prog 66 = some (.agg #[.slice none 0 0, .int .i64 0, .int .i64 0, .bool false]) := by kernel_rfl
theorem agg66 : aggB Try.prog 66 = some true := by simp [aggB, Try.underlying66]
attribute [go_sem] Try.underlying66 tsz66 tby66 tz66 agg66
-- t 67 [4]mux.other
theorem tsz67 : tsz Try.prog 67 = some 16 := by kernel_rfl
theorem tby67 : tby Try.prog 67 = some 192 := by kernel_rfl
theorem tz67 : tzero Try.prog 67 = some (.agg #[.slice none 0 0, .int .i64 0, .int .i64 0, .bool false, .slice none 0 0, .int .i64 0, .int .i64 0, .bool false, .slice none 0 0, .int .i64 0, .int .i64 0, .bool false, .slice none 0 0, .int .i64 0, .int .i64 0, .bool false]) := by kernel_rfl
theorem agg67 : aggB Try.prog 67 = some true := by simp [aggB, Try.underlying67]
attribute [go_sem] Try.underlying67 tsz67 tby67 tz67 agg67
-- t 68 struct ( out [4]mux.half; in [4]mux.other )
theorem tsz68 : tsz Try.prog 68 = some 32 := by kernel_rfl
theorem tby68 : tby Try.prog 68 = some 352 := by kernel_rfl
theorem tz68 : tzero Try.prog 68 = some (.agg #[.slice none 0 0, .int .i64 0, .bool false, .bool false, .slice none 0 0, .int .i64 0, .bool false, .bool false, .slice none 0 0, .int .i64 0, .bool false, .bool false, .slice none 0 0, .int .i64 0, .bool false, .bool false, .slice none 0 0, .int .i64 0, .int .i64 0, .bool false, .slice none 0 0, .int .i64 0, .int .i64 0, .bool false, .slice none 0 0, .int .i64 0, .int .i64 0, .bool false, .slice none 0 0, .int .i64 0, .int .i64 0, .bool false]) := by kernel_rfl
theorem agg68 : aggB Try.prog 68 = some true := by simp [aggB, Try.underlying68]
attribute [go_sem] Try.underlying68 tsz68 tby68 tz68 agg68
-- t 69 mux.Mux = gangway/mux.Mux
theorem tsz69 : tsz Try.prog 69 = some 32 := by kernel_rfl
theorem tby69 : tby Try.prog 69 = some 352 := by kernel_rfl
theorem tz69 : tzero Try.prog 69 = some (.agg #[.slice none 0 0, .int .i64 0, .bool false, .bool false, .slice none 0 0, .int .i64 0, .bool false, .bool false, .slice none 0 0, .int .i64 0, .bool false, .bool false, .slice none 0 0, .int .i64 0, .bool false, .bool false, .slice none 0 0, .int .i64 0, .int .i64 0, .bool false, .slice none 0 0, .int .i64 0, .int .i64 0, .bool false, .slice none 0 0, .int .i64 0, .int .i64 0, .bool false, .slice none 0 0, .int .i64 0, .int .i64 0, .bool false]) := by kernel_rfl
theorem agg69 : aggB Try.prog 69 = some true := by simp [aggB, Try.underlying69]
attribute [go_sem] Try.underlying69 tsz69 tby69 tz69 agg69
-- t 70 *mux.half
theorem tsz70 : tsz Try.prog 70 = some 1 := by kernel_rfl
theorem tby70 : tby Try.prog 70 = some 8 := by kernel_rfl
theorem tz70 : tzero Try.prog 70 = some (.pointer none) := by kernel_rfl
theorem agg70 : aggB Try.prog 70 = some false := by simp [aggB, Try.underlying70]
attribute [go_sem] Try.underlying70 tsz70 tby70 tz70 agg70
-- t 71 func([]uint8) []uint8
theorem tsz71 : tsz Try.prog 71 = some 1 := by kernel_rfl
theorem tby71 : tby Try.prog 71 = some 8 := by kernel_rfl
theorem tz71 : tzero Try.prog 71 = some (.nilFunc) := by kernel_rfl
theorem agg71 : aggB Try.prog 71 = some false := by simp [aggB, Try.underlying71]
attribute [go_sem] Try.underlying71 tsz71 tby71 tz71 agg71
-- t 72 func([]uint8) api.Errno
theorem tsz72 : tsz Try.prog 72 = some 1 := by kernel_rfl
theorem tby72 : tby Try.prog 72 = some 8 := by kernel_rfl
theorem tz72 : tzero Try.prog 72 = some (.nilFunc) := by kernel_rfl
theorem agg72 : aggB Try.prog 72 = some false := by simp [aggB, Try.underlying72]
attribute [go_sem] Try.underlying72 tsz72 tby72 tz72 agg72
-- t 73 *mux.other
theorem tsz73 : tsz Try.prog 73 = some 1 := by kernel_rfl
theorem tby73 : tby Try.prog 73 = some 8 := by kernel_rfl
theorem tz73 : tzero Try.prog 73 = some (.pointer none) := by kernel_rfl
theorem agg73 : aggB Try.prog 73 = some false := by simp [aggB, Try.underlying73]
attribute [go_sem] Try.underlying73 tsz73 tby73 tz73 agg73
-- t 74 func(int, int, int) api.Frame
theorem tsz74 : tsz Try.prog 74 = some 1 := by kernel_rfl
theorem tby74 : tby Try.prog 74 = some 8 := by kernel_rfl
theorem tz74 : tzero Try.prog 74 = some (.nilFunc) := by kernel_rfl
theorem agg74 : aggB Try.prog 74 = some false := by simp [aggB, Try.underlying74]
attribute [go_sem] Try.underlying74 tsz74 tby74 tz74 agg74
-- t 75 struct ( Written []uint8; Sent int; Closed bool; Told bool; Came []uint8; Read int; Said int; Credit int; Ended bool )
theorem tsz75 : tsz Try.prog 75 = some 9 := by kernel_rfl
theorem tby75 : tby Try.prog 75 = some 96 := by kernel_rfl
theorem tz75 : tzero Try.prog 75 = some (.agg #[.slice none 0 0, .int .i64 0, .bool false, .bool false, .slice none 0 0, .int .i64 0, .int .i64 0, .int .i64 0, .bool false]) := by kernel_rfl
theorem agg75 : aggB Try.prog 75 = some true := by simp [aggB, Try.underlying75]
attribute [go_sem] Try.underlying75 tsz75 tby75 tz75 agg75
-- t 76 gangwayref18.Channel = gangway/gangwayref18.Channel
theorem tsz76 : tsz Try.prog 76 = some 9 := by kernel_rfl
theorem tby76 : tby Try.prog 76 = some 96 := by kernel_rfl
theorem tz76 : tzero Try.prog 76 = some (.agg #[.slice none 0 0, .int .i64 0, .bool false, .bool false, .slice none 0 0, .int .i64 0, .int .i64 0, .int .i64 0, .bool false]) := by kernel_rfl
theorem agg76 : aggB Try.prog 76 = some true := by simp [aggB, Try.underlying76]
attribute [go_sem] Try.underlying76 tsz76 tby76 tz76 agg76
-- t 77 [4]gangwayref18.Channel
theorem tsz77 : tsz Try.prog 77 = some 36 := by kernel_rfl
theorem tby77 : tby Try.prog 77 = some 384 := by kernel_rfl
theorem tz77 : tzero Try.prog 77 = some (.agg #[.slice none 0 0, .int .i64 0, .bool false, .bool false, .slice none 0 0, .int .i64 0, .int .i64 0, .int .i64 0, .bool false, .slice none 0 0, .int .i64 0, .bool false, .bool false, .slice none 0 0, .int .i64 0, .int .i64 0, .int .i64 0, .bool false, .slice none 0 0, .int .i64 0, .bool false, .bool false, .slice none 0 0, .int .i64 0, .int .i64 0, .int .i64 0, .bool false, .slice none 0 0, .int .i64 0, .bool false, .bool false, .slice none 0 0, .int .i64 0, .int .i64 0, .int .i64 0, .bool false]) := by kernel_rfl
theorem agg77 : aggB Try.prog 77 = some true := by simp [aggB, Try.underlying77]
attribute [go_sem] Try.underlying77 tsz77 tby77 tz77 agg77
-- t 78 struct ( C [4]gangwayref18.Channel )
theorem tsz78 : tsz Try.prog 78 = some 36 := by kernel_rfl
theorem tby78 : tby Try.prog 78 = some 384 := by kernel_rfl
theorem tz78 : tzero Try.prog 78 = some (.agg #[.slice none 0 0, .int .i64 0, .bool false, .bool false, .slice none 0 0, .int .i64 0, .int .i64 0, .int .i64 0, .bool false, .slice none 0 0, .int .i64 0, .bool false, .bool false, .slice none 0 0, .int .i64 0, .int .i64 0, .int .i64 0, .bool false, .slice none 0 0, .int .i64 0, .bool false, .bool false, .slice none 0 0, .int .i64 0, .int .i64 0, .int .i64 0, .bool false, .slice none 0 0, .int .i64 0, .bool false, .bool false, .slice none 0 0, .int .i64 0, .int .i64 0, .int .i64 0, .bool false]) := by kernel_rfl
theorem agg78 : aggB Try.prog 78 = some true := by simp [aggB, Try.underlying78]
attribute [go_sem] Try.underlying78 tsz78 tby78 tz78 agg78
-- t 79 gangwayref18.Mux = gangway/gangwayref18.Mux
theorem tsz79 : tsz Try.prog 79 = some 36 := by kernel_rfl
theorem tby79 : tby Try.prog 79 = some 384 := by kernel_rfl
theorem tz79 : tzero Try.prog 79 = some (.agg #[.slice none 0 0, .int .i64 0, .bool false, .bool false, .slice none 0 0, .int .i64 0, .int .i64 0, .int .i64 0, .bool false, .slice none 0 0, .int .i64 0, .bool false, .bool false, .slice none 0 0, .int .i64 0, .int .i64 0, .int .i64 0, .bool false, .slice none 0 0, .int .i64 0, .bool false, .bool false, .slice none 0 0, .int .i64 0, .int .i64 0, .int .i64 0, .bool false, .slice none 0 0, .int .i64 0, .bool false, .bool false, .slice none 0 0, .int .i64 0, .int .i64 0, .int .i64 0, .bool false]) := by kernel_rfl
theorem agg79 : aggB Try.prog 79 = some true := by simp [aggB, Try.underlying79]
attribute [go_sem] Try.underlying79 tsz79 tby79 tz79 agg79
-- t 80 *gangwayref18.Channel
theorem tsz80 : tsz Try.prog 80 = some 1 := by kernel_rfl
theorem tby80 : tby Try.prog 80 = some 8 := by kernel_rfl
theorem tz80 : tzero Try.prog 80 = some (.pointer none) := by kernel_rfl
theorem agg80 : aggB Try.prog 80 = some false := by simp [aggB, Try.underlying80]
attribute [go_sem] Try.underlying80 tsz80 tby80 tz80 agg80
-- t 81 func() string
theorem tsz81 : tsz Try.prog 81 = some 1 := by kernel_rfl
theorem tby81 : tby Try.prog 81 = some 8 := by kernel_rfl
theorem tz81 : tzero Try.prog 81 = some (.nilFunc) := by kernel_rfl
theorem agg81 : aggB Try.prog 81 = some false := by simp [aggB, Try.underlying81]
attribute [go_sem] Try.underlying81 tsz81 tby81 tz81 agg81
-- t 87 func() int
theorem tsz87 : tsz Try.prog 87 = some 1 := by kernel_rfl
theorem tby87 : tby Try.prog 87 = some 8 := by kernel_rfl
theorem tz87 : tzero Try.prog 87 = some (.nilFunc) := by kernel_rfl
theorem agg87 : aggB Try.prog 87 = some false := by simp [aggB, Try.underlying87]
attribute [go_sem] Try.underlying87 tsz87 tby87 tz87 agg87
-- t 88 uint32
theorem tsz88 : tsz Try.prog 88 = some 1 := by kernel_rfl
theorem tby88 : tby Try.prog 88 = some 4 := by kernel_rfl
theorem tz88 : tzero Try.prog 88 = some (.int .u32 0) := by kernel_rfl
theorem agg88 : aggB Try.prog 88 = some false := by simp [aggB, Try.underlying88]
attribute [go_sem] Try.underlying88 tsz88 tby88 tz88 agg88
-- t 92 *uint8
theorem tsz92 : tsz Try.prog 92 = some 1 := by kernel_rfl
theorem tby92 : tby Try.prog 92 = some 8 := by kernel_rfl
theorem tz92 : tzero Try.prog 92 = some (.pointer none) := by kernel_rfl
theorem agg92 : aggB Try.prog 92 = some false := by simp [aggB, Try.underlying92]
attribute [go_sem] Try.underlying92 tsz92 tby92 tz92 agg92
end L18
