/- Plain Lean: SHA-256 and HMAC on lists of bytes; no program in sight. -/
namespace Go.Proofs.YtncnfncglacheaaGreatDoor.Sha
def rotr (x:UInt32) (n:Nat):UInt32:=(x>>>UInt32.ofNat n) ||| (x<<<UInt32.ofNat (32 - n))
def word (b:List UInt8) (i:Nat):UInt32:=
 (b[4 * i]?.getD 0).toUInt32<<<24 ||| (b[4 * i+1]?.getD 0).toUInt32<<<16 ||| (b[4 * i+2]?.getD 0).toUInt32<<<8 ||| (b[4 * i+3]?.getD 0).toUInt32
def low (x:UInt32):UInt32:=rotr x 7 ^^^ rotr x 18 ^^^ (x>>>3)
def high (y:UInt32):UInt32:=rotr y 17 ^^^ rotr y 19 ^^^ (y>>>10)
def next (w:List UInt32) (n:Nat):UInt32:=(w[n - 16]?.getD 0)+low (w[n - 15]?.getD 0)+(w[n - 7]?.getD 0)+high (w[n - 2]?.getD 0)
def sched (b:List UInt8):Nat→List UInt32
 | 0=>[]
 | n+1=>sched b n++[if n<16 then word b n else next (sched b n) n]
def consts:List UInt32:=[1116352408,1899447441,3049323471,3921009573,961987163,1508970993,2453635748,2870763221,3624381080,310598401,607225278,1426881987,1925078388,2162078206,2614888103,3248222580,3835390401,4022224774,264347078,604807628,770255983,1249150122,1555081692,1996064986,2554220882,2821834349,2952996808,3210313671,3336571891,3584528711,113926993,338241895,666307205,773529912,1294757372,1396182291,1695183700,1986661051,2177026350,2456956037,2730485921,2820302411,3259730800,3345764771,3516065817,3600352804,4094571909,275423344,430227734,506948616,659060556,883997877,958139571,1322822218,1537002063,1747873779,1955562222,2024104815,2227730452,2361852424,2428436474,2756734187,3204031479,3329325298]
def init:List UInt32:=[1779033703,3144134277,1013904242,2773480762,1359893119,2600822924,528734635,1541459225]
structure St where
 a:UInt32
 b:UInt32
 c:UInt32
 d:UInt32
 e:UInt32
 f:UInt32
 g:UInt32
 h:UInt32
def St.list (t:St):List UInt32:=[t.a,t.b,t.c,t.d,t.e,t.f,t.g,t.h]
def St.of (l:List UInt32):St:=⟨(l[0]?.getD 0),(l[1]?.getD 0),(l[2]?.getD 0),(l[3]?.getD 0),(l[4]?.getD 0),(l[5]?.getD 0),(l[6]?.getD 0),(l[7]?.getD 0)⟩
def tx (t:St) (k w:UInt32):UInt32:=t.h+(rotr t.e 6 ^^^ rotr t.e 11 ^^^ rotr t.e 25)+((t.e &&& t.f) ^^^ (~~~t.e &&& t.g))+k+w
def ty (t:St):UInt32:=(rotr t.a 2 ^^^ rotr t.a 13 ^^^ rotr t.a 22)+((t.a &&& t.b) ^^^ (t.a &&& t.c) ^^^ (t.b &&& t.c))
def rnd (t:St) (k w:UInt32):St:=⟨tx t k w+ty t,t.a,t.b,t.c,t.d+tx t k w,t.e,t.f,t.g⟩
def rnds (ws:List UInt32) (t:St):Nat→St
 | 0=>t
 | n+1=>rnd (rnds ws t n) ((consts[n]?.getD 0)) ((ws[n]?.getD 0))
def addTo (s t:List UInt32):Nat→List UInt32
 | 0=>s
 | n+1=>(addTo s t n).set n (((addTo s t n)[n]?.getD 0)+(t[n]?.getD 0))
def compress (s:List UInt32) (b:List UInt8):List UInt32:=addTo s (rnds (sched b 64) (St.of s) 64).list 8
def be (n k:Nat):List UInt8:=(List.range k).map fun i=>UInt8.ofNat (n>>>(56 - 8 * i))
def be64 (n:Nat):List UInt8:=be n 8
def zeros (n:Nat):Nat:=(119 - n % 64) % 64
def pad (b:List UInt8):List UInt8:=b++[128]++List.replicate (zeros b.length) 0++be64 (8 * b.length)
def blocks (s:List UInt32) (p:List UInt8):Nat→List UInt32
 | 0=>s
 | n+1=>compress (blocks s p n) ((p.drop (64 * n)).take 64)
def outByte (s:List UInt32) (i:Nat):UInt8:=((s[i / 4]?.getD 0)>>>UInt32.ofNat (24 - 8 * (i % 4))).toUInt8
def out (s:List UInt32):List UInt8:=(List.range 32).map (outByte s)
def sum (b:List UInt8):List UInt8:=out (blocks init (pad b) ((pad b).length / 64))
end Go.Proofs.YtncnfncglacheaaGreatDoor.Sha
