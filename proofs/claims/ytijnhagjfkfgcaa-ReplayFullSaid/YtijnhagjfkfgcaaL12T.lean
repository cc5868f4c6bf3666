import Derived.Test.YtijnhagjfkfgcaaProg
import Derived.KernelRfl
import Derived.Test.YtijnhagjfkfgcaaAbOwn
open Go Ab Go.Proofs
namespace L12
set_option autoImplicit false
set_option linter.unusedSimpArgs false
set_option linter.unusedVariables false

theorem hmix : Try.prog.follows .mixedOrders = true := by kernel_rfl
-- t 1 func()
theorem tsz1 : tsz Try.prog 1 = some 1 := by kernel_rfl
theorem tby1 : tby Try.prog 1 = some 8 := by kernel_rfl
theorem tz1 : tzero Try.prog 1 = some (.nilFunc) := by kernel_rfl
theorem agg1 : aggB Try.prog 1 = some false := by simp [aggB, Try.underlying1]
attribute [go_sem] Try.underlying1 tsz1 tby1 tz1 agg1
-- t 2 int64
theorem tsz2 : tsz Try.prog 2 = some 1 := by kernel_rfl
theorem tby2 : tby Try.prog 2 = some 8 := by kernel_rfl
theorem tz2 : tzero Try.prog 2 = some (.int .i64 0) := by kernel_rfl
theorem agg2 : aggB Try.prog 2 = some false := by simp [aggB, Try.underlying2]
attribute [go_sem] Try.underlying2 tsz2 tby2 tz2 agg2
-- t 3 int
theorem tsz3 : tsz Try.prog 3 = some 1 := by kernel_rfl
theorem tby3 : tby Try.prog 3 = some 8 := by kernel_rfl
theorem tz3 : tzero Try.prog 3 = some (.int .i64 0) := by kernel_rfl
theorem agg3 : aggB Try.prog 3 = some false := by simp [aggB, Try.underlying3]
attribute [go_sem] Try.underlying3 tsz3 tby3 tz3 agg3
-- t 4 bool
theorem tsz4 : tsz Try.prog 4 = some 1 := by kernel_rfl
theorem tby4 : tby Try.prog 4 = some 1 := by kernel_rfl
theorem tz4 : tzero Try.prog 4 = some (.bool false) := by kernel_rfl
theorem agg4 : aggB Try.prog 4 = some false := by simp [aggB, Try.underlying4]
attribute [go_sem] Try.underlying4 tsz4 tby4 tz4 agg4
-- t 5 uint8
theorem tsz5 : tsz Try.prog 5 = some 1 := by kernel_rfl
theorem tby5 : tby Try.prog 5 = some 1 := by kernel_rfl
theorem tz5 : tzero Try.prog 5 = some (.int .u8 0) := by kernel_rfl
theorem agg5 : aggB Try.prog 5 = some false := by simp [aggB, Try.underlying5]
attribute [go_sem] Try.underlying5 tsz5 tby5 tz5 agg5
-- t 9 string
theorem tsz9 : tsz Try.prog 9 = some 1 := by kernel_rfl
theorem tby9 : tby Try.prog 9 = some 16 := by kernel_rfl
theorem tz9 : tzero Try.prog 9 = some (.string ⟨#[]⟩) := by kernel_rfl
theorem agg9 : aggB Try.prog 9 = some false := by simp [aggB, Try.underlying9]
theorem nI9 : noInt Try.prog 9 = true := by simp [noInt, Try.underlying9]
attribute [go_sem] Try.underlying9 tsz9 tby9 tz9 agg9 nI9
-- t 20 interface ()
theorem tsz20 : tsz Try.prog 20 = some 1 := by kernel_rfl
theorem tby20 : tby Try.prog 20 = some 16 := by kernel_rfl
theorem tz20 : tzero Try.prog 20 = some (.nilIface) := by kernel_rfl
theorem agg20 : aggB Try.prog 20 = some false := by simp [aggB, Try.underlying20]
attribute [go_sem] Try.underlying20 tsz20 tby20 tz20 agg20
-- t 21 int32
theorem tsz21 : tsz Try.prog 21 = some 1 := by kernel_rfl
theorem tby21 : tby Try.prog 21 = some 4 := by kernel_rfl
theorem tz21 : tzero Try.prog 21 = some (.int .i32 0) := by kernel_rfl
theorem agg21 : aggB Try.prog 21 = some false := by simp [aggB, Try.underlying21]
attribute [go_sem] Try.underlying21 tsz21 tby21 tz21 agg21
-- t 22 []gangwaylaw12.Op
theorem tsz22 : tsz Try.prog 22 = some 1 := by kernel_rfl
theorem tby22 : tby Try.prog 22 = some 24 := by kernel_rfl
theorem tz22 : tzero Try.prog 22 = some (.slice none 0 0) := by kernel_rfl
theorem agg22 : aggB Try.prog 22 = some false := by simp [aggB, Try.underlying22]
theorem nI22 : noInt Try.prog 22 = true := by simp [noInt, Try.underlying22]
attribute [go_sem] Try.underlying22 tsz22 tby22 tz22 agg22 nI22
-- t 23 func() bool
theorem tsz23 : tsz Try.prog 23 = some 1 := by kernel_rfl
theorem tby23 : tby Try.prog 23 = some 8 := by kernel_rfl
theorem tz23 : tzero Try.prog 23 = some (.nilFunc) := by kernel_rfl
theorem agg23 : aggB Try.prog 23 = some false := by simp [aggB, Try.underlying23]
attribute [go_sem] Try.underlying23 tsz23 tby23 tz23 agg23
-- t 24 func([]gangwaylaw12.Op) bool
theorem tsz24 : tsz Try.prog 24 = some 1 := by kernel_rfl
theorem tby24 : tby Try.prog 24 = some 8 := by kernel_rfl
theorem tz24 : tzero Try.prog 24 = some (.nilFunc) := by kernel_rfl
theorem agg24 : aggB Try.prog 24 = some false := by simp [aggB, Try.underlying24]
attribute [go_sem] Try.underlying24 tsz24 tby24 tz24 agg24
-- t 25 *replay.Cache
theorem tsz25 : tsz Try.prog 25 = some 1 := by kernel_rfl
theorem tby25 : tby Try.prog 25 = some 8 := by kernel_rfl
theorem tz25 : tzero Try.prog 25 = some (.pointer none) := by kernel_rfl
theorem agg25 : aggB Try.prog 25 = some false := by simp [aggB, Try.underlying25]
attribute [go_sem] Try.underlying25 tsz25 tby25 tz25 agg25
-- t 26 func(int64) *replay.Cache
theorem tsz26 : tsz Try.prog 26 = some 1 := by kernel_rfl
theorem tby26 : tby Try.prog 26 = some 8 := by kernel_rfl
theorem tz26 : tzero Try.prog 26 = some (.nilFunc) := by kernel_rfl
theorem agg26 : aggB Try.prog 26 = some false := by simp [aggB, Try.underlying26]
attribute [go_sem] Try.underlying26 tsz26 tby26 tz26 agg26
-- t 27 *gangwayref12.Cache
theorem tsz27 : tsz Try.prog 27 = some 1 := by kernel_rfl
theorem tby27 : tby Try.prog 27 = some 8 := by kernel_rfl
theorem tz27 : tzero Try.prog 27 = some (.pointer none) := by kernel_rfl
theorem agg27 : aggB Try.prog 27 = some false := by simp [aggB, Try.underlying27]
attribute [go_sem] Try.underlying27 tsz27 tby27 tz27 agg27
-- t 28 []api.Auth
theorem tsz28 : tsz Try.prog 28 = some 1 := by kernel_rfl
theorem tby28 : tby Try.prog 28 = some 24 := by kernel_rfl
theorem tz28 : tzero Try.prog 28 = some (.slice none 0 0) := by kernel_rfl
theorem agg28 : aggB Try.prog 28 = some false := by simp [aggB, Try.underlying28]
theorem nI28 : noInt Try.prog 28 = true := by simp [noInt, Try.underlying28]
attribute [go_sem] Try.underlying28 tsz28 tby28 tz28 agg28 nI28
-- t 29 struct ( List []api.Auth; Closed bool; Until int64 )
theorem tsz29 : tsz Try.prog 29 = some 3 := by kernel_rfl
theorem tby29 : tby Try.prog 29 = some 40 := by kernel_rfl
theorem tz29 : tzero Try.prog 29 = some (.agg #[.slice none 0 0, .bool false, .int .i64 0]) := by kernel_rfl
theorem agg29 : aggB Try.prog 29 = some true := by simp [aggB, Try.underlying29]
attribute [go_sem] Try.underlying29 tsz29 tby29 tz29 agg29
-- t 30 gangwayref12.Cache = gangway/gangwayref12.Cache
theorem tsz30 : tsz Try.prog 30 = some 3 := by kernel_rfl
theorem tby30 : tby Try.prog 30 = some 40 := by kernel_rfl
theorem tz30 : tzero Try.prog 30 = some (.agg #[.slice none 0 0, .bool false, .int .i64 0]) := by kernel_rfl
theorem agg30 : aggB Try.prog 30 = some true := by simp [aggB, Try.underlying30]
attribute [go_sem] Try.underlying30 tsz30 tby30 tz30 agg30
-- t 31 uint64
theorem tsz31 : tsz Try.prog 31 = some 1 := by kernel_rfl
theorem tby31 : tby Try.prog 31 = some 8 := by kernel_rfl
theorem tz31 : tzero Try.prog 31 = some (.int .u64 0) := by kernel_rfl
theorem agg31 : aggB Try.prog 31 = some false := by simp [aggB, Try.underlying31]
attribute [go_sem] Try.underlying31 tsz31 tby31 tz31 agg31
-- t 32 [16]uint8
theorem tsz32 : tsz Try.prog 32 = some 16 := by kernel_rfl
theorem tby32 : tby Try.prog 32 = some 16 := by kernel_rfl
theorem tz32 : tzero Try.prog 32 = some (.agg #[.int .u8 0, .int .u8 0, .int .u8 0, .int .u8 0, .int .u8 0, .int .u8 0, .int .u8 0, .int .u8 0, .int .u8 0, .int .u8 0, .int .u8 0, .int .u8 0, .int .u8 0, .int .u8 0, .int .u8 0, .int .u8 0]) := by kernel_rfl
theorem agg32 : aggB Try.prog 32 = some true := by simp [aggB, Try.underlying32]
attribute [go_sem] Try.underlying32 tsz32 tby32 tz32 agg32
-- t 33 api.Key = gangway/api.Key
theorem tsz33 : tsz Try.prog 33 = some 16 := by kernel_rfl
theorem tby33 : tby Try.prog 33 = some 16 := by kernel_rfl
theorem tz33 : tzero Try.prog 33 = some (.agg #[.int .u8 0, .int .u8 0, .int .u8 0, .int .u8 0, .int .u8 0, .int .u8 0, .int .u8 0, .int .u8 0, .int .u8 0, .int .u8 0, .int .u8 0, .int .u8 0, .int .u8 0, .int .u8 0, .int .u8 0, .int .u8 0]) := by kernel_rfl
theorem agg33 : aggB Try.prog 33 = some true := by simp [aggB, Try.underlying33]
attribute [go_sem] Try.underlying33 tsz33 tby33 tz33 agg33
-- t 34 struct ( Client string; Time int64; Nonce uint64; Subkey api.Key )
theorem tsz34 : tsz Try.prog 34 = some 19 := by kernel_rfl
theorem tby34 : tby Try.prog 34 = some 48 := by kernel_rfl
theorem tz34 : tzero Try.prog 34 = some (.agg #[.string ⟨#[]⟩, .int .i64 0, .int .u64 0, .int .u8 0, .int .u8 0, .int .u8 0, .int .u8 0, .int .u8 0, .int .u8 0, .int .u8 0, .int .u8 0, .int .u8 0, .int .u8 0, .int .u8 0, .int .u8 0, .int .u8 0, .int .u8 0, .int .u8 0, .int .u8 0]) := by kernel_rfl
theorem agg34 : aggB Try.prog 34 = some true := by simp [aggB, Try.underlying34]
attribute [go_sem] Try.underlying34 tsz34 tby34 tz34 agg34
-- t 35 api.Auth = gangway/api.Auth
theorem tsz35 : tsz Try.prog 35 = some 19 := by kernel_rfl
theorem tby35 : tby Try.prog 35 = some 48 := by kernel_rfl
theorem tz35 : tzero Try.prog 35 = some (.agg #[.string ⟨#[]⟩, .int .i64 0, .int .u64 0, .int .u8 0, .int .u8 0, .int .u8 0, .int .u8 0, .int .u8 0, .int .u8 0, .int .u8 0, .int .u8 0, .int .u8 0, .int .u8 0, .int .u8 0, .int .u8 0, .int .u8 0, .int .u8 0, .int .u8 0, .int .u8 0]) := by kernel_rfl
theorem agg35 : aggB Try.prog 35 = some true := by simp [aggB, Try.underlying35]
attribute [go_sem] Try.underlying35 tsz35 tby35 tz35 agg35
-- t 36 struct ( Restart bool; Auth api.Auth; Now int64 )
theorem tsz36 : tsz Try.prog 36 = some 21 := by kernel_rfl
theorem tby36 : tby Try.prog 36 = some 64 := by kernel_rfl
theorem tz36 : tzero Try.prog 36 = some (.agg #[.bool false, .string ⟨#[]⟩, .int .i64 0, .int .u64 0, .int .u8 0, .int .u8 0, .int .u8 0, .int .u8 0, .int .u8 0, .int .u8 0, .int .u8 0, .int .u8 0, .int .u8 0, .int .u8 0, .int .u8 0, .int .u8 0, .int .u8 0, .int .u8 0, .int .u8 0, .int .u8 0, .int .i64 0]) := by kernel_rfl
theorem agg36 : aggB Try.prog 36 = some true := by simp [aggB, Try.underlying36]
attribute [go_sem] Try.underlying36 tsz36 tby36 tz36 agg36
-- t 37 gangwaylaw12.Op = gangway/gangwaylaw12.Op
theorem tsz37 : tsz Try.prog 37 = some 21 := by kernel_rfl
theorem tby37 : tby Try.prog 37 = some 64 := by kernel_rfl
theorem tz37 : tzero Try.prog 37 = some (.agg #[.bool false, .string ⟨#[]⟩, .int .i64 0, .int .u64 0, .int .u8 0, .int .u8 0, .int .u8 0, .int .u8 0, .int .u8 0, .int .u8 0, .int .u8 0, .int .u8 0, .int .u8 0, .int .u8 0, .int .u8 0, .int .u8 0, .int .u8 0, .int .u8 0, .int .u8 0, .int .u8 0, .int .i64 0]) := by kernel_rfl
theorem agg37 : aggB Try.prog 37 = some true := by simp [aggB, Try.underlying37]
attribute [go_sem] Try.underlying37 tsz37 tby37 tz37 agg37
-- t 38 func(int64)
theorem tsz38 : tsz Try.prog 38 = some 1 := by kernel_rfl
theorem tby38 : tby Try.prog 38 = some 8 := by kernel_rfl
theorem tz38 : tzero Try.prog 38 = some (.nilFunc) := by kernel_rfl
theorem agg38 : aggB Try.prog 38 = some false := by simp [aggB, Try.underlying38]
attribute [go_sem] Try.underlying38 tsz38 tby38 tz38 agg38
-- t 39 api.Errno = gangway/api.Errno
theorem tsz39 : tsz Try.prog 39 = some 1 := by kernel_rfl
theorem tby39 : tby Try.prog 39 = some 8 := by kernel_rfl
theorem tz39 : tzero Try.prog 39 = some (.int .i64 0) := by kernel_rfl
theorem agg39 : aggB Try.prog 39 = some false := by simp [aggB, Try.underlying39]
attribute [go_sem] Try.underlying39 tsz39 tby39 tz39 agg39
-- t 40 func(api.Auth, int64) api.Errno
theorem tsz40 : tsz Try.prog 40 = some 1 := by kernel_rfl
theorem tby40 : tby Try.prog 40 = some 8 := by kernel_rfl
theorem tz40 : tzero Try.prog 40 = some (.nilFunc) := by kernel_rfl
theorem agg40 : aggB Try.prog 40 = some false := by simp [aggB, Try.underlying40]
attribute [go_sem] Try.underlying40 tsz40 tby40 tz40 agg40
-- t 41 func(api.Auth, int64) int
theorem tsz41 : tsz Try.prog 41 = some 1 := by kernel_rfl
theorem tby41 : tby Try.prog 41 = some 8 := by kernel_rfl
theorem tz41 : tzero Try.prog 41 = some (.nilFunc) := by kernel_rfl
theorem agg41 : aggB Try.prog 41 = some false := by simp [aggB, Try.underlying41]
attribute [go_sem] Try.underlying41 tsz41 tby41 tz41 agg41
-- t 42 func() int
theorem tsz42 : tsz Try.prog 42 = some 1 := by kernel_rfl
theorem tby42 : tby Try.prog 42 = some 8 := by kernel_rfl
theorem tz42 : tzero Try.prog 42 = some (.nilFunc) := by kernel_rfl
theorem agg42 : aggB Try.prog 42 = some false := by simp [aggB, Try.underlying42]
attribute [go_sem] Try.underlying42 tsz42 tby42 tz42 agg42
-- t 43 func(int64, []gangwaylaw12.Op) bool
theorem tsz43 : tsz Try.prog 43 = some 1 := by kernel_rfl
theorem tby43 : tby Try.prog 43 = some 8 := by kernel_rfl
theorem tz43 : tzero Try.prog 43 = some (.nilFunc) := by kernel_rfl
theorem agg43 : aggB Try.prog 43 = some false := by simp [aggB, Try.underlying43]
attribute [go_sem] Try.underlying43 tsz43 tby43 tz43 agg43
-- t 44 map[api.Auth]bool
theorem tsz44 : tsz Try.prog 44 = some 1 := by kernel_rfl
theorem tby44 : tby Try.prog 44 = some 8 := by kernel_rfl
theorem tz44 : tzero Try.prog 44 = some (.map none) := by kernel_rfl
theorem agg44 : aggB Try.prog 44 = some false := by simp [aggB, Try.underlying44]
attribute [go_sem] Try.underlying44 tsz44 tby44 tz44 agg44
-- t 45 func([]api.Auth, int64) bool
theorem tsz45 : tsz Try.prog 45 = some 1 := by kernel_rfl
theorem tby45 : tby Try.prog 45 = some 8 := by kernel_rfl
theorem tz45 : tzero Try.prog 45 = some (.nilFunc) := by kernel_rfl
theorem agg45 : aggB Try.prog 45 = some false := by simp [aggB, Try.underlying45]
attribute [go_sem] Try.underlying45 tsz45 tby45 tz45 agg45
-- t 46 func(int, int, int64) bool
theorem tsz46 : tsz Try.prog 46 = some 1 := by kernel_rfl
theorem tby46 : tby Try.prog 46 = some 8 := by kernel_rfl
theorem tz46 : tzero Try.prog 46 = some (.nilFunc) := by kernel_rfl
theorem agg46 : aggB Try.prog 46 = some false := by simp [aggB, Try.underlying46]
attribute [go_sem] Try.underlying46 tsz46 tby46 tz46 agg46
-- t 47 map[api.Auth]int
theorem tsz47 : tsz Try.prog 47 = some 1 := by kernel_rfl
theorem tby47 : tby Try.prog 47 = some 8 := by kernel_rfl
theorem tz47 : tzero Try.prog 47 = some (.map none) := by kernel_rfl
theorem agg47 : aggB Try.prog 47 = some false := by simp [aggB, Try.underlying47]
attribute [go_sem] Try.underlying47 tsz47 tby47 tz47 agg47
-- t 48 struct ( seen map[api.Auth]int; closed bool; until int64 )
theorem tsz48 : tsz Try.prog 48 = some 3 := by kernel_rfl
theorem tby48 : tby Try.prog 48 = some 24 := by kernel_rfl
theorem tz48 : tzero Try.prog 48 = some (.agg #[.map none, .bool false, .int .i64 0]) := by kernel_rfl
theorem agg48 : aggB Try.prog 48 = some true := by simp [aggB, Try.underlying48]
attribute [go_sem] Try.underlying48 tsz48 tby48 tz48 agg48
-- t 49 replay.Cache = gangway/replay.Cache
theorem tsz49 : tsz Try.prog 49 = some 3 := by kernel_rfl
theorem tby49 : tby Try.prog 49 = some 24 := by kernel_rfl
theorem tz49 : tzero Try.prog 49 = some (.agg #[.map none, .bool false, .int .i64 0]) := by kernel_rfl
theorem agg49 : aggB Try.prog 49 = some true := by simp [aggB, Try.underlying49]
attribute [go_sem] Try.underlying49 tsz49 tby49 tz49 agg49
-- t 50 func(int64, int64) bool
theorem tsz50 : tsz Try.prog 50 = some 1 := by kernel_rfl
theorem tby50 : tby Try.prog 50 = some 8 := by kernel_rfl
theorem tz50 : tzero Try.prog 50 = some (.nilFunc) := by kernel_rfl
theorem agg50 : aggB Try.prog 50 = some false := by simp [aggB, Try.underlying50]
attribute [go_sem] Try.underlying50 tsz50 tby50 tz50 agg50
-- t 51 func(map[api.Auth]int, func(api.Auth, int) bool)
theorem tsz51 : tsz Try.prog 51 = some 1 := by kernel_rfl
theorem tby51 : tby Try.prog 51 = some 8 := by kernel_rfl
theorem tz51 : tzero Try.prog 51 = some (.nilFunc) := by kernel_rfl
theorem agg51 : aggB Try.prog 51 = some false := by simp [aggB, Try.underlying51]
attribute [go_sem] Try.underlying51 tsz51 tby51 tz51 agg51
-- t 52 func(api.Auth, int) bool
theorem tsz52 : tsz Try.prog 52 = some 1 := by kernel_rfl
theorem tby52 : tby Try.prog 52 = some 8 := by kernel_rfl
theorem tz52 : tzero Try.prog 52 = some (.nilFunc) := by kernel_rfl
theorem agg52 : aggB Try.prog 52 = some false := by simp [aggB, Try.underlying52]
attribute [go_sem] Try.underlying52 tsz52 tby52 tz52 agg52
-- t 53 func() string
theorem tsz53 : tsz Try.prog 53 = some 1 := by kernel_rfl
theorem tby53 : tby Try.prog 53 = some 8 := by kernel_rfl
theorem tz53 : tzero Try.prog 53 = some (.nilFunc) := by kernel_rfl
theorem agg53 : aggB Try.prog 53 = some false := by simp [aggB, Try.underlying53]
attribute [go_sem] Try.underlying53 tsz53 tby53 tz53 agg53
-- t 59 uint32
theorem tsz59 : tsz Try.prog 59 = some 1 := by kernel_rfl
theorem tby59 : tby Try.prog 59 = some 4 := by kernel_rfl
theorem tz59 : tzero Try.prog 59 = some (.int .u32 0) := by kernel_rfl
theorem agg59 : aggB Try.prog 59 = some false := by simp [aggB, Try.underlying59]
attribute [go_sem] Try.underlying59 tsz59 tby59 tz59 agg59
-- t 63 *uint8
theorem tsz63 : tsz Try.prog 63 = some 1 := by kernel_rfl
theorem tby63 : tby Try.prog 63 = some 8 := by kernel_rfl
theorem tz63 : tzero Try.prog 63 = some (.pointer none) := by kernel_rfl
theorem agg63 : aggB Try.prog 63 = some false := by simp [aggB, Try.underlying63]
attribute [go_sem] Try.underlying63 tsz63 tby63 tz63 agg63
end L12
