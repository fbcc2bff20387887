import Derived.Test.YtpdllgbfemnemaaGreatZSxP
import Derived.Test.YtpdllgbfemnemaaGreatZSxK
import Derived.Test.YtpdllgbfemnemaaGreatProg
namespace Go.Proofs.YtpdllgbfemnemaaGreat.Sx
open Go.RowKit
section
def Tab:TT:=[
 ⟨3, .int .i64,1,8,false,[(.int .i64 0)]⟩,
 ⟨4, .bool,1,1,false,[(.bool false)]⟩,
 ⟨28, .slice 5,1,24,false,[(.slice none 0 0)]⟩,
 ⟨34, .slice 3,1,24,false,[(.slice none 0 0)]⟩,
 ⟨25, .struct [(0,3),(1,3),(2,22),(3,23)],4,64,true,[(.int .i64 0),(.int .i64 0),(.slice none 0 0),(.slice none 0 0)]⟩,
 ⟨116, .int .u64,1,8,false,[(.int .u64 0)]⟩,
 ⟨5, .int .u8,1,1,false,[(.int .u8 0)]⟩,
 ⟨60, .struct [(0,5),(1,56),(7,58)],10,208,true,[(.int .u8 0),(.slice none 0 0),(.slice none 0 0),(.slice none 0 0),(.int .u8 0),(.slice none 0 0),(.slice none 0 0),(.slice none 0 0),(.slice none 0 0),(.slice none 0 0)]⟩,
 ⟨1, .other,1,8,false,[.nilFunc]⟩,
 ⟨29, .int .u8,1,1,false,[(.int .u8 0)]⟩,
 ⟨162, .int .u32,1,4,false,[(.int .u32 0)]⟩,
 ⟨23, .slice 79,1,24,false,[(.slice none 0 0)]⟩,
 ⟨22, .slice 77,1,24,false,[(.slice none 0 0)]⟩,
 ⟨56, .struct [(0,28),(1,28),(2,28),(3,5),(4,28),(5,28)],6,128,true,[(.slice none 0 0),(.slice none 0 0),(.slice none 0 0),(.int .u8 0),(.slice none 0 0),(.slice none 0 0)]⟩,
 ⟨2, .int .i64,1,8,false,[(.int .i64 0)]⟩,
 ⟨154, .slice 116,1,24,false,[(.slice none 0 0)]⟩,
 ⟨58, .struct [(0,28),(1,28),(2,34)],3,72,true,[(.slice none 0 0),(.slice none 0 0),(.slice none 0 0)]⟩,
 ⟨71, .slice 28,1,24,false,[(.slice none 0 0)]⟩,
 ⟨140, .struct [(0,3),(1,3),(2,88),(3,89)],4,32,true,[(.int .i64 0),(.int .i64 0),(.map none),(.map none)]⟩,
 ⟨223, .struct [(0,3),(1,3),(2,116),(3,28),(4,71)],5,72,true,[(.int .i64 0),(.int .i64 0),(.int .u64 0),(.slice none 0 0),(.slice none 0 0)]⟩,
 ⟨194, .other,1,8,false,[(.pointer none)]⟩,
 ⟨79, .struct [(0,3),(1,28)],2,32,true,[(.int .i64 0),(.slice none 0 0)]⟩,
 ⟨126, .int .u64,1,8,false,[(.int .u64 0)]⟩,
 ⟨91, .struct [(0,88),(1,89)],2,16,true,[(.map none),(.map none)]⟩,
 ⟨49, .slice 60,1,24,false,[(.slice none 0 0)]⟩,
 ⟨88, .other,1,8,false,[(.map none)]⟩,
 ⟨77, .struct [(0,3),(1,60)],11,216,true,[(.int .i64 0),(.int .u8 0),(.slice none 0 0),(.slice none 0 0),(.slice none 0 0),(.int .u8 0),(.slice none 0 0),(.slice none 0 0),(.slice none 0 0),(.slice none 0 0),(.slice none 0 0)]⟩,
 ⟨105, .slice 109,1,24,false,[(.slice none 0 0)]⟩,
 ⟨109, .struct [(0,3),(1,3),(2,3)],3,24,true,[(.int .i64 0),(.int .i64 0),(.int .i64 0)]⟩,
 ⟨247, .int .u64,1,8,false,[(.int .u64 0)]⟩,
 ⟨89, .other,1,8,false,[(.map none)]⟩,
 ⟨149, .struct [(0,3),(1,3)],2,16,true,[(.int .i64 0),(.int .i64 0)]⟩,
 ⟨184, .array 8 162,8,32,true,[(.int .u32 0),(.int .u32 0),(.int .u32 0),(.int .u32 0),(.int .u32 0),(.int .u32 0),(.int .u32 0),(.int .u32 0)]⟩,
 ⟨206, .array 64 162,64,256,true,(List.replicate 64 (.int .u32 0))⟩,
 ⟨234, .int .i64,1,8,false,[(.int .i64 0)]⟩,
 ⟨80, .other,1,8,false,[.nilFunc]⟩,
 ⟨9, .str,1,16,false,[(.string ⟨#[]⟩)]⟩,
 ⟨159, .array 32 5,32,32,true,(List.replicate 32 (.int .u8 0))⟩,
 ⟨214, .struct [(0,28),(1,29)],2,32,true,[(.slice none 0 0),(.int .u8 0)]⟩,
 ⟨237, .int .i64,1,8,false,[(.int .i64 0)]⟩,
 ⟨173, .other,1,8,false,[.nilFunc]⟩,
 ⟨233, .other,1,8,false,[.nilFunc]⟩,
 ⟨235, .other,1,8,false,[.nilFunc]⟩,
 ⟨256, .other,1,8,false,[(.pointer none)]⟩,
 ⟨188, .other,1,8,false,[(.pointer none)]⟩,
 ⟨251, .other,1,8,false,[(.pointer none)]⟩,
 ⟨219, .other,1,8,false,[.nilFunc]⟩,
 ⟨189, .slice 188,1,24,false,[(.slice none 0 0)]⟩,
 ⟨8, .struct [(0,2),(1,3),(2,4),(3,6)],4,24,true,[(.int .i64 0),(.int .i64 0),(.bool false),(.int .u8 0)]⟩,
 ⟨20, .other,1,16,false,[.nilIface]⟩,
 ⟨134, .other,1,8,false,[.nilFunc]⟩,
 ⟨172, .other,1,8,false,[.nilFunc]⟩,
 ⟨187, .other,1,8,false,[(.pointer none)]⟩,
 ⟨210, .slice 162,1,24,false,[(.slice none 0 0)]⟩,
 ⟨64, .other,1,8,false,[.nilFunc]⟩,
 ⟨6, .int .u8,1,1,false,[(.int .u8 0)]⟩,
 ⟨7, .struct [(0,2),(1,3),(2,4),(3,6)],4,24,true,[(.int .i64 0),(.int .i64 0),(.bool false),(.int .u8 0)]⟩,
 ⟨10, .str,1,16,false,[(.string ⟨#[]⟩)]⟩,
 ⟨11, .str,1,16,false,[(.string ⟨#[]⟩)]⟩,
 ⟨12, .int .u64,1,8,false,[(.int .u64 0)]⟩,
 ⟨13, .struct [(0,9),(1,12)],2,24,true,[(.string ⟨#[]⟩),(.int .u64 0)]⟩,
 ⟨14, .struct [(0,9),(1,12)],2,24,true,[(.string ⟨#[]⟩),(.int .u64 0)]⟩,
 ⟨15, .other,1,8,false,[(.pointer none)]⟩,
 ⟨16, .other,1,8,false,[(.pointer none)]⟩,
 ⟨17, .other,1,8,false,[(.pointer none)]⟩,
 ⟨18, .struct [(0,17)],1,8,true,[(.pointer none)]⟩,
 ⟨19, .struct [(0,17)],1,8,true,[(.pointer none)]⟩,
 ⟨21, .int .i32,1,4,false,[(.int .i32 0)]⟩,
 ⟨24, .struct [(0,3),(1,3),(2,22),(3,23)],4,64,true,[(.int .i64 0),(.int .i64 0),(.slice none 0 0),(.slice none 0 0)]⟩,
 ⟨26, .other,1,8,false,[.nilFunc]⟩,
 ⟨27, .other,1,8,false,[.nilFunc]⟩,
 ⟨31, .other,1,8,false,[.nilFunc]⟩,
 ⟨32, .other,1,8,false,[.nilFunc]⟩,
 ⟨33, .other,1,8,false,[.nilFunc]⟩,
 ⟨35, .other,1,8,false,[.nilFunc]⟩,
 ⟨36, .other,1,8,false,[.nilFunc]⟩,
 ⟨37, .other,1,8,false,[.nilFunc]⟩,
 ⟨38, .other,1,8,false,[.nilFunc]⟩,
 ⟨39, .other,1,8,false,[.nilFunc]⟩,
 ⟨40, .other,1,8,false,[.nilFunc]⟩,
 ⟨42, .other,1,8,false,[.nilFunc]⟩,
 ⟨43, .other,1,8,false,[.nilFunc]⟩,
 ⟨44, .other,1,8,false,[.nilFunc]⟩,
 ⟨45, .other,1,8,false,[.nilFunc]⟩,
 ⟨46, .other,1,8,false,[.nilFunc]⟩,
 ⟨47, .other,1,8,false,[.nilFunc]⟩,
 ⟨48, .other,1,8,false,[.nilFunc]⟩,
 ⟨50, .other,1,8,false,[.nilFunc]⟩,
 ⟨51, .other,1,8,false,[.nilFunc]⟩,
 ⟨52, .other,1,8,false,[.nilFunc]⟩,
 ⟨53, .other,1,8,false,[.nilFunc]⟩,
 ⟨54, .other,1,8,false,[.nilFunc]⟩,
 ⟨55, .struct [(0,28),(1,28),(2,28),(3,5),(4,28),(5,28)],6,128,true,[(.slice none 0 0),(.slice none 0 0),(.slice none 0 0),(.int .u8 0),(.slice none 0 0),(.slice none 0 0)]⟩,
 ⟨57, .struct [(0,28),(1,28),(2,34)],3,72,true,[(.slice none 0 0),(.slice none 0 0),(.slice none 0 0)]⟩,
 ⟨59, .struct [(0,5),(1,56),(7,58)],10,208,true,[(.int .u8 0),(.slice none 0 0),(.slice none 0 0),(.slice none 0 0),(.int .u8 0),(.slice none 0 0),(.slice none 0 0),(.slice none 0 0),(.slice none 0 0),(.slice none 0 0)]⟩,
 ⟨62, .other,1,8,false,[.nilFunc]⟩,
 ⟨63, .other,1,8,false,[.nilFunc]⟩,
 ⟨66, .other,1,8,false,[.nilFunc]⟩,
 ⟨67, .other,1,8,false,[.nilFunc]⟩,
 ⟨68, .other,1,8,false,[.nilFunc]⟩,
 ⟨69, .other,1,8,false,[.nilFunc]⟩,
 ⟨70, .other,1,8,false,[.nilFunc]⟩,
 ⟨72, .other,1,8,false,[.nilFunc]⟩,
 ⟨73, .other,1,8,false,[.nilFunc]⟩,
 ⟨74, .other,1,8,false,[.nilFunc]⟩,
 ⟨75, .other,1,8,false,[.nilFunc]⟩,
 ⟨76, .struct [(0,3),(1,60)],11,216,true,[(.int .i64 0),(.int .u8 0),(.slice none 0 0),(.slice none 0 0),(.slice none 0 0),(.int .u8 0),(.slice none 0 0),(.slice none 0 0),(.slice none 0 0),(.slice none 0 0),(.slice none 0 0)]⟩,
 ⟨78, .struct [(0,3),(1,28)],2,32,true,[(.int .i64 0),(.slice none 0 0)]⟩,
 ⟨81, .other,1,8,false,[.nilFunc]⟩,
 ⟨82, .other,1,8,false,[.nilFunc]⟩,
 ⟨84, .other,1,8,false,[.nilFunc]⟩,
 ⟨86, .other,1,8,false,[.nilFunc]⟩,
 ⟨87, .other,1,8,false,[.nilFunc]⟩,
 ⟨90, .struct [(0,88),(1,89)],2,16,true,[(.map none),(.map none)]⟩,
 ⟨93, .other,1,8,false,[.nilFunc]⟩,
 ⟨94, .other,1,8,false,[.nilFunc]⟩,
 ⟨95, .other,1,8,false,[.nilFunc]⟩,
 ⟨96, .other,1,8,false,[.nilFunc]⟩,
 ⟨97, .other,1,8,false,[.nilFunc]⟩,
 ⟨98, .other,1,8,false,[.nilFunc]⟩,
 ⟨99, .other,1,8,false,[.nilFunc]⟩,
 ⟨100, .other,1,8,false,[.nilFunc]⟩,
 ⟨102, .other,1,8,false,[.nilFunc]⟩,
 ⟨103, .other,1,8,false,[.nilFunc]⟩,
 ⟨104, .other,1,8,false,[.nilFunc]⟩,
 ⟨106, .other,1,8,false,[.nilFunc]⟩,
 ⟨107, .other,1,8,false,[.nilFunc]⟩,
 ⟨108, .struct [(0,3),(1,3),(2,3)],3,24,true,[(.int .i64 0),(.int .i64 0),(.int .i64 0)]⟩,
 ⟨110, .other,1,8,false,[.nilFunc]⟩,
 ⟨111, .other,1,8,false,[.nilFunc]⟩,
 ⟨113, .other,1,8,false,[.nilFunc]⟩,
 ⟨114, .other,1,8,false,[.nilFunc]⟩,
 ⟨115, .other,1,8,false,[.nilFunc]⟩,
 ⟨117, .other,1,8,false,[.nilFunc]⟩,
 ⟨118, .other,1,8,false,[.nilFunc]⟩,
 ⟨119, .other,1,8,false,[.nilFunc]⟩,
 ⟨121, .other,1,8,false,[.nilFunc]⟩,
 ⟨122, .other,1,8,false,[.nilFunc]⟩,
 ⟨123, .other,1,8,false,[.nilFunc]⟩,
 ⟨124, .other,1,8,false,[.nilFunc]⟩,
 ⟨125, .other,1,8,false,[.nilFunc]⟩,
 ⟨127, .other,1,8,false,[.nilFunc]⟩,
 ⟨128, .other,1,8,false,[.nilFunc]⟩,
 ⟨130, .other,1,8,false,[.nilFunc]⟩,
 ⟨131, .other,1,8,false,[.nilFunc]⟩,
 ⟨132, .other,1,8,false,[.nilFunc]⟩,
 ⟨133, .other,1,8,false,[.nilFunc]⟩,
 ⟨135, .other,1,8,false,[.nilFunc]⟩,
 ⟨136, .other,1,8,false,[.nilFunc]⟩,
 ⟨137, .other,1,8,false,[.nilFunc]⟩,
 ⟨138, .other,1,8,false,[.nilFunc]⟩,
 ⟨139, .struct [(0,3),(1,3),(2,88),(3,89)],4,32,true,[(.int .i64 0),(.int .i64 0),(.map none),(.map none)]⟩,
 ⟨142, .other,1,8,false,[.nilFunc]⟩,
 ⟨143, .other,1,8,false,[.nilFunc]⟩,
 ⟨144, .other,1,8,false,[.nilFunc]⟩,
 ⟨146, .other,1,8,false,[.nilFunc]⟩,
 ⟨147, .other,1,8,false,[.nilFunc]⟩,
 ⟨148, .struct [(0,3),(1,3)],2,16,true,[(.int .i64 0),(.int .i64 0)]⟩,
 ⟨151, .other,1,8,false,[.nilFunc]⟩,
 ⟨152, .other,1,8,false,[.nilFunc]⟩,
 ⟨153, .other,1,8,false,[.nilFunc]⟩,
 ⟨156, .other,1,8,false,[.nilFunc]⟩,
 ⟨157, .other,1,8,false,[.nilFunc]⟩,
 ⟨158, .other,1,8,false,[.nilFunc]⟩,
 ⟨160, .other,1,8,false,[.nilFunc]⟩,
 ⟨161, .other,1,8,false,[.nilFunc]⟩,
 ⟨163, .other,1,8,false,[.nilFunc]⟩,
 ⟨164, .other,1,8,false,[.nilFunc]⟩,
 ⟨165, .other,1,8,false,[.nilFunc]⟩,
 ⟨166, .other,1,8,false,[.nilFunc]⟩,
 ⟨167, .other,1,8,false,[.nilFunc]⟩,
 ⟨168, .other,1,8,false,[.nilFunc]⟩,
 ⟨169, .other,1,8,false,[.nilFunc]⟩,
 ⟨170, .other,1,8,false,[.nilFunc]⟩,
 ⟨171, .other,1,8,false,[.nilFunc]⟩,
 ⟨174, .other,1,8,false,[.nilFunc]⟩,
 ⟨175, .other,1,8,false,[.nilFunc]⟩,
 ⟨177, .other,1,8,false,[.nilFunc]⟩,
 ⟨179, .other,1,8,false,[.nilFunc]⟩,
 ⟨180, .other,1,8,false,[.nilFunc]⟩,
 ⟨181, .other,1,8,false,[.nilFunc]⟩,
 ⟨182, .other,1,8,false,[.nilFunc]⟩,
 ⟨183, .other,1,8,false,[.nilFunc]⟩,
 ⟨185, .other,1,8,false,[.nilFunc]⟩,
 ⟨186, .other,1,8,false,[.nilFunc]⟩,
 ⟨192, .other,1,8,false,[.nilFunc]⟩,
 ⟨195, .other,1,8,false,[.nilFunc]⟩,
 ⟨197, .other,1,8,false,[.nilFunc]⟩,
 ⟨198, .other,1,8,false,[.nilFunc]⟩,
 ⟨199, .other,1,8,false,[.nilFunc]⟩,
 ⟨200, .other,1,8,false,[.nilFunc]⟩,
 ⟨201, .other,1,8,false,[.nilFunc]⟩,
 ⟨203, .other,1,8,false,[.nilFunc]⟩,
 ⟨205, .other,1,8,false,[.nilFunc]⟩,
 ⟨207, .other,1,8,false,[.nilFunc]⟩,
 ⟨208, .other,1,8,false,[.nilFunc]⟩,
 ⟨209, .other,1,8,false,[.nilFunc]⟩,
 ⟨211, .other,1,8,false,[.nilFunc]⟩,
 ⟨212, .other,1,8,false,[.nilFunc]⟩,
 ⟨213, .struct [(0,28),(1,29)],2,32,true,[(.slice none 0 0),(.int .u8 0)]⟩,
 ⟨215, .other,1,8,false,[.nilFunc]⟩,
 ⟨217, .other,1,8,false,[.nilFunc]⟩,
 ⟨218, .other,1,8,false,[.nilFunc]⟩,
 ⟨220, .other,1,8,false,[.nilFunc]⟩,
 ⟨221, .other,1,8,false,[.nilFunc]⟩,
 ⟨222, .struct [(0,3),(1,3),(2,116),(3,28),(4,71)],5,72,true,[(.int .i64 0),(.int .i64 0),(.int .u64 0),(.slice none 0 0),(.slice none 0 0)]⟩,
 ⟨225, .other,1,8,false,[.nilFunc]⟩,
 ⟨226, .other,1,8,false,[.nilFunc]⟩,
 ⟨227, .other,1,8,false,[.nilFunc]⟩,
 ⟨228, .other,1,8,false,[.nilFunc]⟩,
 ⟨230, .other,1,8,false,[.nilFunc]⟩,
 ⟨232, .other,1,8,false,[.nilFunc]⟩,
 ⟨236, .other,1,8,false,[.nilFunc]⟩,
 ⟨239, .other,1,8,false,[.nilFunc]⟩,
 ⟨240, .other,1,8,false,[.nilFunc]⟩,
 ⟨241, .other,1,8,false,[.nilFunc]⟩,
 ⟨242, .other,1,8,false,[.nilFunc]⟩,
 ⟨244, .other,1,8,false,[.nilFunc]⟩,
 ⟨245, .other,1,8,false,[.nilFunc]⟩,
 ⟨246, .other,1,8,false,[.nilFunc]⟩,
 ⟨248, .other,1,8,false,[.nilFunc]⟩,
 ⟨249, .other,1,8,false,[.nilFunc]⟩,
 ⟨250, .other,1,8,false,[.nilFunc]⟩,
 ⟨252, .other,1,8,false,[.nilFunc]⟩,
 ⟨254, .other,1,8,false,[.nilFunc]⟩,
 ⟨255, .other,1,8,false,[.nilFunc]⟩,
 ⟨257, .other,1,8,false,[.nilFunc]⟩,
 ⟨258, .other,1,8,false,[.nilFunc]⟩,
 ⟨259, .struct [(0,17),(1,17),(2,17),(3,9)],4,40,true,[(.pointer none),(.pointer none),(.pointer none),(.string ⟨#[]⟩)]⟩,
 ⟨260, .struct [(0,17),(1,17),(2,17),(3,9)],4,40,true,[(.pointer none),(.pointer none),(.pointer none),(.string ⟨#[]⟩)]⟩,
 ⟨261, .array 0 16,0,0,true,[]⟩,
 ⟨262, .struct [(0,261)],0,0,true,[]⟩,
 ⟨263, .struct [(0,261)],0,0,true,[]⟩,
 ⟨264, .int .u8,1,1,false,[(.int .u8 0)]⟩,
 ⟨265, .int .u8,1,1,false,[(.int .u8 0)]⟩,
 ⟨266, .other,1,8,false,[.nilFunc]⟩,
 ⟨267, .other,1,8,false,[(.pointer none)]⟩,
 ⟨268, .int .i32,1,4,false,[(.int .i32 0)]⟩,
 ⟨269, .int .i32,1,4,false,[(.int .i32 0)]⟩,
 ⟨270, .struct [(0,12),(1,12),(2,162),(3,264),(4,5),(5,5),(6,265),(7,266),(8,267),(9,268),(10,269)],11,48,true,[(.int .u64 0),(.int .u64 0),(.int .u32 0),(.int .u8 0),(.int .u8 0),(.int .u8 0),(.int .u8 0), .nilFunc,(.pointer none),(.int .i32 0),(.int .i32 0)]⟩,
 ⟨271, .struct [(0,12),(1,12),(2,162),(3,264),(4,5),(5,5),(6,265),(7,266),(8,267),(9,268),(10,269)],11,48,true,[(.int .u64 0),(.int .u64 0),(.int .u32 0),(.int .u8 0),(.int .u8 0),(.int .u8 0),(.int .u8 0), .nilFunc,(.pointer none),(.int .i32 0),(.int .i32 0)]⟩,
 ⟨272, .other,1,8,false,[(.pointer none)]⟩]
theorem zfyb:mkT Tryz.prog [3,4,28,34,25,116,5,60,1,29,162,23,22,56,2,154,58,71,140,223,194,79,126,91,49,88,77,105,109,247,89,149,184,206,234,80,9,159,214,237,173,233,235,256,188,251,219,189,8,20,134,172,187,210,64,6,7,10,11,12,13,14,15,16,17,18,19,21,24,26,27,31,32,33,35,36,37,38,39,40,42,43,44,45,46,47,48,50,51,52,53,54,55,57,59,62,63,66,67,68,69,70,72,73,74,75,76,78,81,82,84,86,87,90,93,94,95,96,97,98,99,100,102,103,104,106,107,108,110,111,113,114,115,117,118,119,121,122,123,124,125,127,128,130,131,132,133,135,136,137,138,139,142,143,144,146,147,148,151,152,153,156,157,158,160,161,163,164,165,166,167,168,169,170,171,174,175,177,179,180,181,182,183,185,186,192,195,197,198,199,200,201,203,205,207,208,209,211,212,213,215,217,218,220,221,222,225,226,227,228,230,232,236,239,240,241,242,244,245,246,248,249,250,252,254,255,257,258,259,260,261,262,263,264,265,266,267,268,269,270,271,272]=Tab:=by kernel_rfl
theorem Tab_ok:TOk Tryz.prog Tab:=zfyb▸zz5 _
theorem mixed:Tryz.prog.follows .mixedOrders=true:=by kernel_rfl
end
section
structure Leaf where
 box:List UInt8
 sign:List UInt8
 ident:List UInt8
 src:UInt8
 parent:List UInt8
 sig:List UInt8
 deriving DecidableEq
structure Par where
 box:List UInt8
 hash:List UInt8
 late:List Int
 deriving DecidableEq
structure Node where
 kind:UInt8
 leaf:Leaf
 par:Par
 deriving DecidableEq
structure Spot where
 at_:Int
 node:Node
 deriving DecidableEq
structure Stub where
 at_:Int
 hash:List UInt8
 deriving DecidableEq
structure Lean_ where
 leaves:Int
 own:Int
 opn:List Spot
 shut:List Stub
 deriving DecidableEq
abbrev I(n:Int):RV:= .i .i64 n
abbrev U8(c:UInt8):RV:= .i .u8 (c.toNat:Int)
def bs(l:List UInt8):RV:= .sl 1 l.length (l.map U8)
def is(l:List Int):RV:= .sl 1 l.length (l.map I)
abbrev Leaf.c(l:Leaf):List RV:=[bs l.box,bs l.sign,bs l.ident,U8 l.src,bs l.parent,bs l.sig]
abbrev Par.c(p:Par):List RV:=[bs p.box,bs p.hash,is p.late]
abbrev Node.c(n:Node):List RV:=[U8 n.kind,bs n.leaf.box,bs n.leaf.sign,bs n.leaf.ident,U8 n.leaf.src,bs n.leaf.parent,bs n.leaf.sig,bs n.par.box,bs n.par.hash,is n.par.late]
abbrev Spot.c(s:Spot):List RV:=[I s.at_,U8 s.node.kind,bs s.node.leaf.box,bs s.node.leaf.sign,bs s.node.leaf.ident,U8 s.node.leaf.src,bs s.node.leaf.parent,bs s.node.leaf.sig,bs s.node.par.box,bs s.node.par.hash,is s.node.par.late]
abbrev Stub.c(s:Stub):List RV:=[I s.at_,bs s.hash]
def spots(l:List Spot):RV:= .sl 11 l.length (l.flatMap Spot.c)
def zkv(l:List Stub):RV:= .sl 2 l.length (l.flatMap Stub.c)
abbrev Lean_.c(s:Lean_):List RV:=[I s.leaves,I s.own,spots s.opn,zkv s.shut]
def i64(n:Int):Prop:= -9223372036854775808<=n/\n<=9223372036854775807
abbrev maxL:Nat:=281474976710656
theorem zai{α:Type}{f:α->RV}{l:List α}{i:Int}{j:Nat}(h:i=j)(hj:j<l.length):((l.map f).drop (i.toNat*1)).take 1=[f l[j]]:=by
 subst h
 simp only[Int.toNat_natCast,Nat.mul_one]
 rw[List.drop_eq_getElem_cons (by simpa using hj)]
 simp
theorem zpy{α β:Type}{f:α->List β}{sz:Nat}(hf: ∀x,(f x).length=sz): ∀(l:List α) (j:Nat),(l.flatMap f).drop (j*sz)=(l.drop j).flatMap f
 |l,0=>by simp
 |[],j+1=>by simp
 |x::l,j+1=>by
  simp only[List.flatMap_cons,List.drop_succ_cons]
  rw[List.drop_append,hf,List.drop_eq_nil_of_le (by rw[hf,Nat.add_mul];omega),show(j+1)*sz-sz=j*sz by rw[Nat.add_mul];omega,zpy hf l j]
  simp
theorem zof{α β:Type}{f:α->List β}{sz:Nat}(hf: ∀x,(f x).length=sz){l:List α}{i:Int}{j:Nat}(h:i=j)(hj:j<l.length):((l.flatMap f).drop (i.toNat*sz)).take sz=f l[j]:=by
 subst h
 rw[Int.toNat_natCast,zpy hf,List.drop_eq_getElem_cons hj,List.flatMap_cons,List.take_append,hf,Nat.sub_self,List.take_zero,List.append_nil,List.take_of_length_le (by rw[hf];omega)]
end
end Go.Proofs.YtpdllgbfemnemaaGreat.Sx
