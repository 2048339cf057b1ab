/- SHA-256 on numbers, each taken ahead of what follows: quick for the kernel; and that it is 'sha' at a statement without lists. Plain, no program in sight. | The digest of a statement without lists, reckoned on numbers. No program in sight; no statement of the seat. | chain.copied: a contract, no statement of the seat. | shelf.Copy: statements that share no memory. No statement of the seat. | One element of an owned row of statements gets other lists. No statement of the seat. | shelf.Copy: statements that share no memory. No statement of the seat. -/
import Derived.Test.YtflhidfclfkjlaaGreatSeal03G
import Derived.Test.YtflhidfclfkjlaaGreatMg07
import Derived.Test.YtflhidfclfkjlaaGreatMg04
import Derived.Test.YtflhidfclfkjlaaGreatOnlyG
import Derived.Deep.RegionLaw
import Derived.Test.YtflhidfclfkjlaaGreatMg06
import Derived.Deep.Cut
namespace Go.Proofs.YtflhidfclfkjlaaGreat
open Go.RowKit Go.Sort
section
noncomputable def fc {α:Type} (n:Nat) (k:Nat→α):α:=Nat.rec (motive:=fun _=>α) (k 0) (fun m _=>k (Nat.succ m)) n
theorem fc_eq {α:Type} (n:Nat) (k:Nat→α):fc n k=k n:=by cases n <;> rfl
def sg0 (x:Nat):Nat:=(Nat.xor (Nat.xor (Nat.lor (Nat.shiftRight x 7) (Nat.mod (Nat.shiftLeft x 25) 4294967296)) (Nat.lor (Nat.shiftRight x 18) (Nat.mod (Nat.shiftLeft x 14) 4294967296))) (Nat.shiftRight x 3))
def sg1 (x:Nat):Nat:=(Nat.xor (Nat.xor (Nat.lor (Nat.shiftRight x 17) (Nat.mod (Nat.shiftLeft x 15) 4294967296)) (Nat.lor (Nat.shiftRight x 19) (Nat.mod (Nat.shiftLeft x 13) 4294967296))) (Nat.shiftRight x 10))
def bg0 (x:Nat):Nat:=(Nat.xor (Nat.xor (Nat.lor (Nat.shiftRight x 2) (Nat.mod (Nat.shiftLeft x 30) 4294967296)) (Nat.lor (Nat.shiftRight x 13) (Nat.mod (Nat.shiftLeft x 19) 4294967296))) (Nat.lor (Nat.shiftRight x 22) (Nat.mod (Nat.shiftLeft x 10) 4294967296)))
def bg1 (x:Nat):Nat:=(Nat.xor (Nat.xor (Nat.lor (Nat.shiftRight x 6) (Nat.mod (Nat.shiftLeft x 26) 4294967296)) (Nat.lor (Nat.shiftRight x 11) (Nat.mod (Nat.shiftLeft x 21) 4294967296))) (Nat.lor (Nat.shiftRight x 25) (Nat.mod (Nat.shiftLeft x 7) 4294967296)))
def chN (e f g:Nat):Nat:=Nat.xor (Nat.land e f) (Nat.land (Nat.sub 4294967295 e) g)
def mjN (a b c:Nat):Nat:=Nat.xor (Nat.xor (Nat.land a b) (Nat.land a c)) (Nat.land b c)
noncomputable def goN {α:Type} (h0 h1 h2 h3 h4 h5 h6 h7:Nat) (k:Nat→Nat→Nat→Nat→Nat→Nat→Nat→Nat→α) (ks:List Nat):Nat→Nat→Nat→Nat→Nat→Nat→Nat→Nat→Nat→Nat→Nat→Nat→Nat→Nat→Nat→Nat→Nat→Nat→Nat→Nat→Nat→Nat→Nat→Nat→α :=
 List.rec (motive:=fun _=>Nat→Nat→Nat→Nat→Nat→Nat→Nat→Nat→Nat→Nat→Nat→Nat→Nat→Nat→Nat→Nat→Nat→Nat→Nat→Nat→Nat→Nat→Nat→Nat→α)
  (fun a b c d e f g h _ _ _ _ _ _ _ _ _ _ _ _ _ _ _ _=>fc (Nat.mod (Nat.add a h0) 4294967296) fun r0=>fc (Nat.mod (Nat.add b h1) 4294967296) fun r1=>fc (Nat.mod (Nat.add c h2) 4294967296) fun r2=>fc (Nat.mod (Nat.add d h3) 4294967296) fun r3=>fc (Nat.mod (Nat.add e h4) 4294967296) fun r4=>fc (Nat.mod (Nat.add f h5) 4294967296) fun r5=>fc (Nat.mod (Nat.add g h6) 4294967296) fun r6=>fc (Nat.mod (Nat.add h h7) 4294967296) fun r7=>k r0 r1 r2 r3 r4 r5 r6 r7)
  (fun c0 _ ih a b c d e f g h w0 w1 w2 w3 w4 w5 w6 w7 w8 w9 w10 w11 w12 w13 w14 w15=>
    fc (Nat.mod (Nat.add (Nat.add (Nat.add (Nat.add h (bg1 e)) (chN e f g)) c0) w0) 4294967296) fun x=>
    fc (Nat.mod (Nat.add (Nat.add x (bg0 a)) (mjN a b c)) 4294967296) fun a1=>
    fc (Nat.mod (Nat.add d x) 4294967296) fun e1=>
    fc (Nat.mod (Nat.add (Nat.add (Nat.add w0 (sg0 w1)) w9) (sg1 w14)) 4294967296) fun w16=>
    ih a1 a b c e1 e f g w1 w2 w3 w4 w5 w6 w7 w8 w9 w10 w11 w12 w13 w14 w15 w16) ks
def constN:List Nat:=[1116352408,1899447441,3049323471,3921009573,961987163,1508970993,2453635748,2870763221,3624381080,310598401,607225278,1426881987,1925078388,2162078206,2614888103,3248222580,3835390401,4022224774,264347078,604807628,770255983,1249150122,1555081692,1996064986,2554220882,2821834349,2952996808,3210313671,3336571891,3584528711,113926993,338241895,666307205,773529912,1294757372,1396182291,1695183700,1986661051,2177026350,2456956037,2730485921,2820302411,3259730800,3345764771,3516065817,3600352804,4094571909,275423344,430227734,506948616,659060556,883997877,958139571,1322822218,1537002063,1747873779,1955562222,2024104815,2227730452,2361852424,2428436474,2756734187,3204031479,3329325298]
noncomputable def blkN {α:Type} (h0 h1 h2 h3 h4 h5 h6 h7 w0 w1 w2 w3 w4 w5 w6 w7 w8 w9 w10 w11 w12 w13 w14 w15:Nat) (k:Nat→Nat→Nat→Nat→Nat→Nat→Nat→Nat→α):α:=goN h0 h1 h2 h3 h4 h5 h6 h7 k constN h0 h1 h2 h3 h4 h5 h6 h7 w0 w1 w2 w3 w4 w5 w6 w7 w8 w9 w10 w11 w12 w13 w14 w15
noncomputable def stN3 {α:Type} (au nu p0 p1 p2 p3 p4 p5 p6 p7 ti ki a b c:Nat) (k:Nat→Nat→Nat→Nat→Nat→Nat→Nat→Nat→α):α :=
 blkN 1779033703 3144134277 1013904242 2773480762 1359893119 2600822924 528734635 1541459225 0 au 0 nu 0 32 p0 p1 p2 p3 p4 p5 p6 p7 0 ti fun r0 r1 r2 r3 r4 r5 r6 r7=>
 blkN r0 r1 r2 r3 r4 r5 r6 r7 0 ki 0 a 0 b 0 c 0 0 0 0 0 0 2147483648 0 fun q0 q1 q2 q3 q4 q5 q6 q7=>
 blkN q0 q1 q2 q3 q4 q5 q6 q7 0 0 0 0 0 0 0 0 0 0 0 0 0 0 0 960 k
noncomputable def stN2 {α:Type} (au nu ti ki a b c:Nat) (k:Nat→Nat→Nat→Nat→Nat→Nat→Nat→Nat→α):α :=
 blkN 1779033703 3144134277 1013904242 2773480762 1359893119 2600822924 528734635 1541459225 0 au 0 nu 0 0 0 ti 0 ki 0 a 0 b 0 c fun r0 r1 r2 r3 r4 r5 r6 r7=>
 blkN r0 r1 r2 r3 r4 r5 r6 r7 0 0 0 0 0 0 2147483648 0 0 0 0 0 0 0 0 704 k
theorem turnU_n (x:UInt32) (n:Nat) (h1:1≤n) (h2:n≤31): (turnU x n).toNat=Nat.lor (Nat.shiftRight x.toNat n) (Nat.mod (Nat.shiftLeft x.toNat (32 - n)) 4294967296):=by
 unfold turnU
 rw [UInt32.toNat_or,UInt32.toNat_shiftRight,UInt32.toNat_shiftLeft,UInt32.toNat_ofNat',UInt32.toNat_ofNat',Nat.mod_eq_of_lt (show n < 2 ^ 32 by omega),Nat.mod_eq_of_lt (show 32 - n < 2 ^ 32 by omega),Nat.mod_eq_of_lt (show n < 32 by omega),Nat.mod_eq_of_lt (show 32 - n < 32 by omega)]
 rfl
theorem shrU_n (x:UInt32) (m:UInt32) (n:Nat) (h:m=UInt32.ofNat n) (h2:n≤31): (x >>> m).toNat=Nat.shiftRight x.toNat n:=by
 subst h
 rw [UInt32.toNat_shiftRight,UInt32.toNat_ofNat',Nat.mod_eq_of_lt (show n < 2 ^ 32 by omega),Nat.mod_eq_of_lt (show n < 32 by omega)]
 rfl
theorem sg0_n (x:UInt32): ((turnU x 7 ^^^ turnU x 18) ^^^ (x >>> 3)).toNat=sg0 x.toNat:=by
 rw [UInt32.toNat_xor,UInt32.toNat_xor,turnU_n _ _ (by omega) (by omega),turnU_n _ _ (by omega) (by omega),shrU_n x 3 3 rfl (by omega)];rfl
theorem sg1_n (x:UInt32): ((turnU x 17 ^^^ turnU x 19) ^^^ (x >>> 10)).toNat=sg1 x.toNat:=by
 rw [UInt32.toNat_xor,UInt32.toNat_xor,turnU_n _ _ (by omega) (by omega),turnU_n _ _ (by omega) (by omega),shrU_n x 10 10 rfl (by omega)];rfl
theorem bg0_n (x:UInt32): ((turnU x 2 ^^^ turnU x 13) ^^^ turnU x 22).toNat=bg0 x.toNat:=by
 rw [UInt32.toNat_xor,UInt32.toNat_xor,turnU_n _ _ (by omega) (by omega),turnU_n _ _ (by omega) (by omega),turnU_n _ _ (by omega) (by omega)];rfl
theorem bg1_n (x:UInt32): ((turnU x 6 ^^^ turnU x 11) ^^^ turnU x 25).toNat=bg1 x.toNat:=by
 rw [UInt32.toNat_xor,UInt32.toNat_xor,turnU_n _ _ (by omega) (by omega),turnU_n _ _ (by omega) (by omega),turnU_n _ _ (by omega) (by omega)];rfl
theorem notU_n (x:UInt32): (~~~x).toNat=Nat.sub 4294967295 x.toNat:=by
 rw [UInt32.toNat_not];rfl
theorem chN_n (e f g:UInt32): ((e &&& f) ^^^ ((~~~e) &&& g)).toNat=chN e.toNat f.toNat g.toNat:=by
 rw [UInt32.toNat_xor,UInt32.toNat_and,UInt32.toNat_and,notU_n];rfl
theorem mjN_n (a b c:UInt32): (((a &&& b) ^^^ (a &&& c)) ^^^ (b &&& c)).toNat=mjN a.toNat b.toNat c.toNat:=by
 rw [UInt32.toNat_xor,UInt32.toNat_xor,UInt32.toNat_and,UInt32.toNat_and,UInt32.toNat_and];rfl
theorem add_n (x y:UInt32) (m n:Nat) (hx:x.toNat=m % 4294967296) (hy:y.toNat=n % 4294967296): (x+y).toNat=Nat.add m n % 4294967296:=by
 rw [UInt32.toNat_add,hx,hy];show _= (m+n) % 4294967296;omega
theorem self_n (x:UInt32):x.toNat=x.toNat % 4294967296:=by have:=x.toNat_lt;omega
def wt (b:List UInt8) (t:Nat):UInt32:=if t < 16 then wordU b t else schedU (sched b t) t
theorem sched_get (b:List UInt8) (t:Nat):∀m,t < m→(sched b m).getD t 0=wt b t
 | 0,h=>absurd h (by omega)
 | m+1,h=>by
   rw [sched]
   by_cases e:t < m
   · rw [List.getD_eq_getElem?_getD,List.getElem?_append_left (by rw [sched_len];exact e),←List.getD_eq_getElem?_getD]
     exact sched_get b t m e
   · obtain rfl:t=m:=by omega
     rw [List.getD_eq_getElem?_getD,List.getElem?_append_right (by rw [sched_len];omega),sched_len,Nat.sub_self]
     rfl
theorem wt_next (b:List UInt8) (n:Nat):wt b (n+16)= ((wt b n+ ((turnU (wt b (n+1)) 7 ^^^ turnU (wt b (n+1)) 18) ^^^ (wt b (n+1) >>> 3)))+wt b (n+9))+ ((turnU (wt b (n+14)) 17 ^^^ turnU (wt b (n+14)) 19) ^^^ (wt b (n+14) >>> 10)):=by
 conv=>lhs;unfold wt
 rw [if_neg (by omega)]
 unfold schedU schedA schedC
 rw [show n+16 - 16=n by omega,show n+16 - 15=n+1 by omega,show n+16 - 7=n+9 by omega,show n+16 - 2=n+14 by omega,sched_get b n _ (by omega),sched_get b (n+1) _ (by omega),sched_get b (n+9) _ (by omega),sched_get b (n+14) _ (by omega)]
theorem wt_next_n (b:List UInt8) (n:Nat): (wt b (n+16)).toNat=Nat.mod (Nat.add (Nat.add (Nat.add (wt b n).toNat (sg0 (wt b (n+1)).toNat)) (wt b (n+9)).toNat) (sg1 (wt b (n+14)).toNat)) 4294967296:=by
 rw [wt_next,←sg0_n,←sg1_n]
 exact add_n _ _ _ _ (add_n _ _ _ _ (add_n _ _ _ _ (self_n _) (self_n _)) (self_n _)) (self_n _)
theorem constN_get (n:Nat) (h:n < 64):∃r,constN.drop n= (constU.getD n 0).toNat :: r∧r=constN.drop (n+1):=by
 refine⟨_,?_,rfl⟩
 have h1:n < constN.length:=h
 rw [List.drop_eq_getElem_cons h1]
 congr 1
 have:∀m:Fin 64,constN[m.val]'(by have:=m.isLt;exact this)= (constU.getD m.val 0).toNat:=by decide
 exact this ⟨n,h⟩
section
variable {α:Type} (k:Nat→Nat→Nat→Nat→Nat→Nat→Nat→Nat→α)
theorem goN_nil (h0 h1 h2 h3 h4 h5 h6 h7 a b c d e f g h w0 w1 w2 w3 w4 w5 w6 w7 w8 w9 w10 w11 w12 w13 w14 w15:Nat):goN h0 h1 h2 h3 h4 h5 h6 h7 k [] a b c d e f g h w0 w1 w2 w3 w4 w5 w6 w7 w8 w9 w10 w11 w12 w13 w14 w15=k (Nat.mod (Nat.add a h0) 4294967296) (Nat.mod (Nat.add b h1) 4294967296) (Nat.mod (Nat.add c h2) 4294967296) (Nat.mod (Nat.add d h3) 4294967296) (Nat.mod (Nat.add e h4) 4294967296) (Nat.mod (Nat.add f h5) 4294967296) (Nat.mod (Nat.add g h6) 4294967296) (Nat.mod (Nat.add h h7) 4294967296):=by
 unfold goN
 simp only [fc_eq]
theorem goN_cons (h0 h1 h2 h3 h4 h5 h6 h7 c0:Nat) (ks:List Nat) (a b c d e f g h w0 w1 w2 w3 w4 w5 w6 w7 w8 w9 w10 w11 w12 w13 w14 w15:Nat):goN h0 h1 h2 h3 h4 h5 h6 h7 k (c0 :: ks) a b c d e f g h w0 w1 w2 w3 w4 w5 w6 w7 w8 w9 w10 w11 w12 w13 w14 w15 =
 goN h0 h1 h2 h3 h4 h5 h6 h7 k ks (Nat.mod (Nat.add (Nat.add (Nat.mod (Nat.add (Nat.add (Nat.add (Nat.add h (bg1 e)) (chN e f g)) c0) w0) 4294967296) (bg0 a)) (mjN a b c)) 4294967296) a b c (Nat.mod (Nat.add d (Nat.mod (Nat.add (Nat.add (Nat.add (Nat.add h (bg1 e)) (chN e f g)) c0) w0) 4294967296)) 4294967296) e f g w1 w2 w3 w4 w5 w6 w7 w8 w9 w10 w11 w12 w13 w14 w15 (Nat.mod (Nat.add (Nat.add (Nat.add w0 (sg0 w1)) w9) (sg1 w14)) 4294967296):=by
 unfold goN
 simp only [fc_eq]
theorem goN_step (hs:List UInt32) (b:List UInt8) (v:List UInt32) (n:Nat) (hn:n < 64) :
 goN (hs.getD 0 0).toNat (hs.getD 1 0).toNat (hs.getD 2 0).toNat (hs.getD 3 0).toNat (hs.getD 4 0).toNat (hs.getD 5 0).toNat (hs.getD 6 0).toNat (hs.getD 7 0).toNat k (constN.drop n) (v.getD 0 0).toNat (v.getD 1 0).toNat (v.getD 2 0).toNat (v.getD 3 0).toNat (v.getD 4 0).toNat (v.getD 5 0).toNat (v.getD 6 0).toNat (v.getD 7 0).toNat (wt b n).toNat (wt b (n+1)).toNat (wt b (n+2)).toNat (wt b (n+3)).toNat (wt b (n+4)).toNat (wt b (n+5)).toNat (wt b (n+6)).toNat (wt b (n+7)).toNat (wt b (n+8)).toNat (wt b (n+9)).toNat (wt b (n+10)).toNat (wt b (n+11)).toNat (wt b (n+12)).toNat (wt b (n+13)).toNat (wt b (n+14)).toNat (wt b (n+15)).toNat =
 goN (hs.getD 0 0).toNat (hs.getD 1 0).toNat (hs.getD 2 0).toNat (hs.getD 3 0).toNat (hs.getD 4 0).toNat (hs.getD 5 0).toNat (hs.getD 6 0).toNat (hs.getD 7 0).toNat k (constN.drop (n+1)) ((roundU v (constU.getD n 0) (wt b n)).getD 0 0).toNat ((roundU v (constU.getD n 0) (wt b n)).getD 1 0).toNat ((roundU v (constU.getD n 0) (wt b n)).getD 2 0).toNat ((roundU v (constU.getD n 0) (wt b n)).getD 3 0).toNat ((roundU v (constU.getD n 0) (wt b n)).getD 4 0).toNat ((roundU v (constU.getD n 0) (wt b n)).getD 5 0).toNat ((roundU v (constU.getD n 0) (wt b n)).getD 6 0).toNat ((roundU v (constU.getD n 0) (wt b n)).getD 7 0).toNat (wt b (n+1)).toNat (wt b (n+2)).toNat (wt b (n+3)).toNat (wt b (n+4)).toNat (wt b (n+5)).toNat (wt b (n+6)).toNat (wt b (n+7)).toNat (wt b (n+8)).toNat (wt b (n+9)).toNat (wt b (n+10)).toNat (wt b (n+11)).toNat (wt b (n+12)).toNat (wt b (n+13)).toNat (wt b (n+14)).toNat (wt b (n+15)).toNat (wt b (n+16)).toNat:=by
 obtain⟨r,h1,h2⟩:=constN_get n hn
 rw [h1,←h2]
 have ex: (rX v (constU.getD n 0) (wt b n)).toNat=Nat.mod (Nat.add (Nat.add (Nat.add (Nat.add (v.getD 7 0).toNat (bg1 (v.getD 4 0).toNat)) (chN (v.getD 4 0).toNat (v.getD 5 0).toNat (v.getD 6 0).toNat)) (constU.getD n 0).toNat) (wt b n).toNat) 4294967296:=by
  unfold rX rS rC
  rw [←bg1_n,←chN_n]
  exact add_n _ _ _ _ (add_n _ _ _ _ (add_n _ _ _ _ (add_n _ _ _ _ (self_n _) (self_n _)) (self_n _)) (self_n _)) (self_n _)
 have ea: ((roundU v (constU.getD n 0) (wt b n)).getD 0 0).toNat=Nat.mod (Nat.add (Nat.add (rX v (constU.getD n 0) (wt b n)).toNat (bg0 (v.getD 0 0).toNat)) (mjN (v.getD 0 0).toNat (v.getD 1 0).toNat (v.getD 2 0).toNat)) 4294967296:=by
  show((rX v (constU.getD n 0) (wt b n)+rT v)+rM v).toNat=_
  unfold rT rM
  rw [←bg0_n,←mjN_n]
  exact add_n _ _ _ _ (add_n _ _ _ _ (self_n _) (self_n _)) (self_n _)
 have ee: ((roundU v (constU.getD n 0) (wt b n)).getD 4 0).toNat=Nat.mod (Nat.add (v.getD 3 0).toNat (rX v (constU.getD n 0) (wt b n)).toNat) 4294967296:=by
  show(v.getD 3 0+rX v (constU.getD n 0) (wt b n)).toNat=_
  exact add_n _ _ _ _ (self_n _) (self_n _)
 rw [goN_cons,←ex,←ea,←ee,←wt_next_n]
 rfl
theorem goN_eq (hs:List UInt32) (b:List UInt8) (m:Nat):∀n,n+m=64→
 goN (hs.getD 0 0).toNat (hs.getD 1 0).toNat (hs.getD 2 0).toNat (hs.getD 3 0).toNat (hs.getD 4 0).toNat (hs.getD 5 0).toNat (hs.getD 6 0).toNat (hs.getD 7 0).toNat k (constN.drop n) ((rounds constU (sched b 64) hs n).getD 0 0).toNat ((rounds constU (sched b 64) hs n).getD 1 0).toNat ((rounds constU (sched b 64) hs n).getD 2 0).toNat ((rounds constU (sched b 64) hs n).getD 3 0).toNat ((rounds constU (sched b 64) hs n).getD 4 0).toNat ((rounds constU (sched b 64) hs n).getD 5 0).toNat ((rounds constU (sched b 64) hs n).getD 6 0).toNat ((rounds constU (sched b 64) hs n).getD 7 0).toNat (wt b n).toNat (wt b (n+1)).toNat (wt b (n+2)).toNat (wt b (n+3)).toNat (wt b (n+4)).toNat (wt b (n+5)).toNat (wt b (n+6)).toNat (wt b (n+7)).toNat (wt b (n+8)).toNat (wt b (n+9)).toNat (wt b (n+10)).toNat (wt b (n+11)).toNat (wt b (n+12)).toNat (wt b (n+13)).toNat (wt b (n+14)).toNat (wt b (n+15)).toNat =
 k ((blockU hs b constU).getD 0 0).toNat ((blockU hs b constU).getD 1 0).toNat ((blockU hs b constU).getD 2 0).toNat ((blockU hs b constU).getD 3 0).toNat ((blockU hs b constU).getD 4 0).toNat ((blockU hs b constU).getD 5 0).toNat ((blockU hs b constU).getD 6 0).toNat ((blockU hs b constU).getD 7 0).toNat:=by
 induction m with
 | zero=>
   intro n hn
   obtain rfl:n=64:=by omega
   have hl: (rounds constU (sched b 64) hs 64).length=8:=rfl
   have hb:∀i,i < 8→((blockU hs b constU).getD i 0)= (rounds constU (sched b 64) hs 64).getD i 0+hs.getD i 0:=fun i hi=>by
    unfold blockU addTo
    rw [hl,List.getD_eq_getElem?_getD,List.getElem?_map,List.getElem?_range hi]
    simp only [Option.map_some,Option.getD_some,if_pos hi]
   have e:∀i,i < 8→Nat.mod (Nat.add ((rounds constU (sched b 64) hs 64).getD i 0).toNat (hs.getD i 0).toNat) 4294967296= ((blockU hs b constU).getD i 0).toNat:=fun i hi=>by
    rw [hb i hi];exact(add_n _ _ _ _ (self_n _) (self_n _)).symm
   rw [show constN.drop 64=[] from rfl,goN_nil,e 0 (by omega),e 1 (by omega),e 2 (by omega),e 3 (by omega),e 4 (by omega),e 5 (by omega),e 6 (by omega),e 7 (by omega)]
 | succ m ih=>
   intro n hn
   rw [goN_step k hs b _ n (by omega),←ih (n+1) (by omega)]
   have:rounds constU (sched b 64) hs (n+1)=roundU (rounds constU (sched b 64) hs n) (constU.getD n 0) (wt b n):=by
    rw [rounds,sched_get b n 64 (by omega)]
   rw [this]
theorem blkN_eq (hs:List UInt32) (b:List UInt8):blkN (hs.getD 0 0).toNat (hs.getD 1 0).toNat (hs.getD 2 0).toNat (hs.getD 3 0).toNat (hs.getD 4 0).toNat (hs.getD 5 0).toNat (hs.getD 6 0).toNat (hs.getD 7 0).toNat (wordU b 0).toNat (wordU b 1).toNat (wordU b 2).toNat (wordU b 3).toNat (wordU b 4).toNat (wordU b 5).toNat (wordU b 6).toNat (wordU b 7).toNat (wordU b 8).toNat (wordU b 9).toNat (wordU b 10).toNat (wordU b 11).toNat (wordU b 12).toNat (wordU b 13).toNat (wordU b 14).toNat (wordU b 15).toNat k=k ((blockU hs b constU).getD 0 0).toNat ((blockU hs b constU).getD 1 0).toNat ((blockU hs b constU).getD 2 0).toNat ((blockU hs b constU).getD 3 0).toNat ((blockU hs b constU).getD 4 0).toNat ((blockU hs b constU).getD 5 0).toNat ((blockU hs b constU).getD 6 0).toNat ((blockU hs b constU).getD 7 0).toNat:=goN_eq k hs b 64 0 rfl
end
def word4 (x y z t:UInt8):UInt32:=(((x.toUInt32 <<< 24) ||| (y.toUInt32 <<< 16)) ||| (z.toUInt32 <<< 8)) ||| t.toUInt32
theorem shl8_n (x:UInt8) (m:UInt32) (n:Nat) (h:m=UInt32.ofNat n) (h2:n≤24): (x.toUInt32 <<< m).toNat=x.toNat * 2 ^ n:=by
 subst h
 have hx:=x.toNat_lt
 rw [UInt32.toNat_shiftLeft,UInt32.toNat_ofNat',Nat.mod_eq_of_lt (show n < 2 ^ 32 by omega),Nat.mod_eq_of_lt (show n < 32 by omega),UInt8.toNat_toUInt32,Nat.shiftLeft_eq,Nat.mod_eq_of_lt]
 calc x.toNat * 2 ^ n < 2 ^ 8 * 2 ^ n:=Nat.mul_lt_mul_of_pos_right hx (Nat.two_pow_pos n)
  _≤2 ^ 8 * 2 ^ 24:=Nat.mul_le_mul_left _ (Nat.pow_le_pow_right (by omega) h2)
theorem or_add (a b n:Nat) (h:b < 2 ^ n):a * 2 ^ n ||| b=a * 2 ^ n+b:=by
 rw [←Nat.shiftLeft_eq,←Nat.shiftLeft_add_eq_or_of_lt h]
theorem word4_nat (x y z t:UInt8): (word4 x y z t).toNat=x.toNat * 16777216+y.toNat * 65536+z.toNat * 256+t.toNat:=by
 have hx:=x.toNat_lt;have hy:=y.toNat_lt;have hz:=z.toNat_lt;have ht:=t.toNat_lt
 unfold word4
 rw [UInt32.toNat_or,UInt32.toNat_or,UInt32.toNat_or,shl8_n x 24 24 rfl (by omega),shl8_n y 16 16 rfl (by omega),shl8_n z 8 8 rfl (by omega),UInt8.toNat_toUInt32]
 rw [or_add x.toNat (y.toNat * 2 ^ 16) 24 (by omega)]
 rw [show x.toNat * 2 ^ 24+y.toNat * 2 ^ 16= (x.toNat * 256+y.toNat) * 2 ^ 16 by omega,or_add _ (z.toNat * 2 ^ 8) 16 (by omega)]
 rw [show(x.toNat * 256+y.toNat) * 2 ^ 16+z.toNat * 2 ^ 8= ((x.toNat * 256+y.toNat) * 256+z.toNat) * 2 ^ 8 by omega,or_add _ t.toNat 8 (by omega)]
 all_goals omega
theorem by8_n (z:Int): (by8 z).toNat= (z % 256).toNat:=by have:=by8_toNat z;omega
theorem word4_int (n:Nat) (h:n < 4294967296): (word4 (by8 ((n:Int) / 16777216)) (by8 ((n:Int) / 65536)) (by8 ((n:Int) / 256)) (by8 (n:Int))).toNat=n:=by
 rw [word4_nat,by8_n,by8_n,by8_n,by8_n];omega
theorem word4_hi (n:Nat) (h:n < 4294967296): (word4 (by8 ((n:Int) / 72057594037927936)) (by8 ((n:Int) / 281474976710656)) (by8 ((n:Int) / 1099511627776)) (by8 ((n:Int) / 4294967296))).toNat=0:=by
 rw [word4_nat,by8_n,by8_n,by8_n,by8_n];omega
theorem word4_bytes (x:UInt32): (word4 (x >>> 24).toUInt8 (x >>> 16).toUInt8 (x >>> 8).toUInt8 x.toUInt8).toNat=x.toNat:=by
 have hx:=x.toNat_lt
 rw [word4_nat,UInt32.toNat_toUInt8,UInt32.toNat_toUInt8,UInt32.toNat_toUInt8,UInt32.toNat_toUInt8,shrU_n x 24 24 rfl (by omega),shrU_n x 16 16 rfl (by omega),shrU_n x 8 8 rfl (by omega)]
 show(x.toNat >>> 24) % 256 * 16777216+ (x.toNat >>> 16) % 256 * 65536+ (x.toNat >>> 8) % 256 * 256+x.toNat % 256=x.toNat
 rw [Nat.shiftRight_eq_div_pow,Nat.shiftRight_eq_div_pow,Nat.shiftRight_eq_div_pow]
 omega
def dgW (h:List UInt32):ByteArray:=strOf (outTo h 8)
theorem stb3 (au nu ti ki a b c:Nat) (p0 p1 p2 p3 p4 p5 p6 p7:UInt32) (key:Int) (dig:ByteArray):stB (⟨(au:Int),(nu:Int),(dgW [p0,p1,p2,p3,p4,p5,p6,p7]),(ti:Int),(ki:Int),(a:Int),(b:Int),(c:Int),[],[],⟨#[]⟩,key,dig⟩:St)=[by8 (((au:Nat):Int) / 72057594037927936),by8 (((au:Nat):Int) / 281474976710656),by8 (((au:Nat):Int) / 1099511627776),by8 (((au:Nat):Int) / 4294967296),by8 (((au:Nat):Int) / 16777216),by8 (((au:Nat):Int) / 65536),by8 (((au:Nat):Int) / 256),by8 ((au:Nat):Int),by8 (((nu:Nat):Int) / 72057594037927936),by8 (((nu:Nat):Int) / 281474976710656),by8 (((nu:Nat):Int) / 1099511627776),by8 (((nu:Nat):Int) / 4294967296),by8 (((nu:Nat):Int) / 16777216),by8 (((nu:Nat):Int) / 65536),by8 (((nu:Nat):Int) / 256),by8 ((nu:Nat):Int),by8 (((32:Nat):Int) / 72057594037927936),by8 (((32:Nat):Int) / 281474976710656),by8 (((32:Nat):Int) / 1099511627776),by8 (((32:Nat):Int) / 4294967296),by8 (((32:Nat):Int) / 16777216),by8 (((32:Nat):Int) / 65536),by8 (((32:Nat):Int) / 256),by8 ((32:Nat):Int),(p0 >>> 24).toUInt8,(p0 >>> 16).toUInt8,(p0 >>> 8).toUInt8,p0.toUInt8,(p1 >>> 24).toUInt8,(p1 >>> 16).toUInt8,(p1 >>> 8).toUInt8,p1.toUInt8,(p2 >>> 24).toUInt8,(p2 >>> 16).toUInt8,(p2 >>> 8).toUInt8,p2.toUInt8,(p3 >>> 24).toUInt8,(p3 >>> 16).toUInt8,(p3 >>> 8).toUInt8,p3.toUInt8,(p4 >>> 24).toUInt8,(p4 >>> 16).toUInt8,(p4 >>> 8).toUInt8,p4.toUInt8,(p5 >>> 24).toUInt8,(p5 >>> 16).toUInt8,(p5 >>> 8).toUInt8,p5.toUInt8,(p6 >>> 24).toUInt8,(p6 >>> 16).toUInt8,(p6 >>> 8).toUInt8,p6.toUInt8,(p7 >>> 24).toUInt8,(p7 >>> 16).toUInt8,(p7 >>> 8).toUInt8,p7.toUInt8,by8 (((ti:Nat):Int) / 72057594037927936),by8 (((ti:Nat):Int) / 281474976710656),by8 (((ti:Nat):Int) / 1099511627776),by8 (((ti:Nat):Int) / 4294967296),by8 (((ti:Nat):Int) / 16777216),by8 (((ti:Nat):Int) / 65536),by8 (((ti:Nat):Int) / 256),by8 ((ti:Nat):Int),by8 (((ki:Nat):Int) / 72057594037927936),by8 (((ki:Nat):Int) / 281474976710656),by8 (((ki:Nat):Int) / 1099511627776),by8 (((ki:Nat):Int) / 4294967296),by8 (((ki:Nat):Int) / 16777216),by8 (((ki:Nat):Int) / 65536),by8 (((ki:Nat):Int) / 256),by8 ((ki:Nat):Int),by8 (((a:Nat):Int) / 72057594037927936),by8 (((a:Nat):Int) / 281474976710656),by8 (((a:Nat):Int) / 1099511627776),by8 (((a:Nat):Int) / 4294967296),by8 (((a:Nat):Int) / 16777216),by8 (((a:Nat):Int) / 65536),by8 (((a:Nat):Int) / 256),by8 ((a:Nat):Int),by8 (((b:Nat):Int) / 72057594037927936),by8 (((b:Nat):Int) / 281474976710656),by8 (((b:Nat):Int) / 1099511627776),by8 (((b:Nat):Int) / 4294967296),by8 (((b:Nat):Int) / 16777216),by8 (((b:Nat):Int) / 65536),by8 (((b:Nat):Int) / 256),by8 ((b:Nat):Int),by8 (((c:Nat):Int) / 72057594037927936),by8 (((c:Nat):Int) / 281474976710656),by8 (((c:Nat):Int) / 1099511627776),by8 (((c:Nat):Int) / 4294967296),by8 (((c:Nat):Int) / 16777216),by8 (((c:Nat):Int) / 65536),by8 (((c:Nat):Int) / 256),by8 ((c:Nat):Int),by8 (((0:Nat):Int) / 72057594037927936),by8 (((0:Nat):Int) / 281474976710656),by8 (((0:Nat):Int) / 1099511627776),by8 (((0:Nat):Int) / 4294967296),by8 (((0:Nat):Int) / 16777216),by8 (((0:Nat):Int) / 65536),by8 (((0:Nat):Int) / 256),by8 ((0:Nat):Int),by8 (((0:Nat):Int) / 72057594037927936),by8 (((0:Nat):Int) / 281474976710656),by8 (((0:Nat):Int) / 1099511627776),by8 (((0:Nat):Int) / 4294967296),by8 (((0:Nat):Int) / 16777216),by8 (((0:Nat):Int) / 65536),by8 (((0:Nat):Int) / 256),by8 ((0:Nat):Int),by8 (((0:Nat):Int) / 72057594037927936),by8 (((0:Nat):Int) / 281474976710656),by8 (((0:Nat):Int) / 1099511627776),by8 (((0:Nat):Int) / 4294967296),by8 (((0:Nat):Int) / 16777216),by8 (((0:Nat):Int) / 65536),by8 (((0:Nat):Int) / 256),by8 ((0:Nat):Int)]:=by rfl
theorem padL3 (L:List UInt8) (h:L.length=120):padded L=L ++ [128] ++ List.replicate 63 0 ++ [0,0,0,0,0,0,3,192]:=by
 unfold padded
 rw [h]
 rfl
theorem pad3 (au nu ti ki a b c:Nat) (p0 p1 p2 p3 p4 p5 p6 p7:UInt32) (key:Int) (dig:ByteArray):padded (stB (⟨(au:Int),(nu:Int),(dgW [p0,p1,p2,p3,p4,p5,p6,p7]),(ti:Int),(ki:Int),(a:Int),(b:Int),(c:Int),[],[],⟨#[]⟩,key,dig⟩:St))=[by8 (((au:Nat):Int) / 72057594037927936),by8 (((au:Nat):Int) / 281474976710656),by8 (((au:Nat):Int) / 1099511627776),by8 (((au:Nat):Int) / 4294967296),by8 (((au:Nat):Int) / 16777216),by8 (((au:Nat):Int) / 65536),by8 (((au:Nat):Int) / 256),by8 ((au:Nat):Int),by8 (((nu:Nat):Int) / 72057594037927936),by8 (((nu:Nat):Int) / 281474976710656),by8 (((nu:Nat):Int) / 1099511627776),by8 (((nu:Nat):Int) / 4294967296),by8 (((nu:Nat):Int) / 16777216),by8 (((nu:Nat):Int) / 65536),by8 (((nu:Nat):Int) / 256),by8 ((nu:Nat):Int),by8 (((32:Nat):Int) / 72057594037927936),by8 (((32:Nat):Int) / 281474976710656),by8 (((32:Nat):Int) / 1099511627776),by8 (((32:Nat):Int) / 4294967296),by8 (((32:Nat):Int) / 16777216),by8 (((32:Nat):Int) / 65536),by8 (((32:Nat):Int) / 256),by8 ((32:Nat):Int),(p0 >>> 24).toUInt8,(p0 >>> 16).toUInt8,(p0 >>> 8).toUInt8,p0.toUInt8,(p1 >>> 24).toUInt8,(p1 >>> 16).toUInt8,(p1 >>> 8).toUInt8,p1.toUInt8,(p2 >>> 24).toUInt8,(p2 >>> 16).toUInt8,(p2 >>> 8).toUInt8,p2.toUInt8,(p3 >>> 24).toUInt8,(p3 >>> 16).toUInt8,(p3 >>> 8).toUInt8,p3.toUInt8,(p4 >>> 24).toUInt8,(p4 >>> 16).toUInt8,(p4 >>> 8).toUInt8,p4.toUInt8,(p5 >>> 24).toUInt8,(p5 >>> 16).toUInt8,(p5 >>> 8).toUInt8,p5.toUInt8,(p6 >>> 24).toUInt8,(p6 >>> 16).toUInt8,(p6 >>> 8).toUInt8,p6.toUInt8,(p7 >>> 24).toUInt8,(p7 >>> 16).toUInt8,(p7 >>> 8).toUInt8,p7.toUInt8,by8 (((ti:Nat):Int) / 72057594037927936),by8 (((ti:Nat):Int) / 281474976710656),by8 (((ti:Nat):Int) / 1099511627776),by8 (((ti:Nat):Int) / 4294967296),by8 (((ti:Nat):Int) / 16777216),by8 (((ti:Nat):Int) / 65536),by8 (((ti:Nat):Int) / 256),by8 ((ti:Nat):Int),by8 (((ki:Nat):Int) / 72057594037927936),by8 (((ki:Nat):Int) / 281474976710656),by8 (((ki:Nat):Int) / 1099511627776),by8 (((ki:Nat):Int) / 4294967296),by8 (((ki:Nat):Int) / 16777216),by8 (((ki:Nat):Int) / 65536),by8 (((ki:Nat):Int) / 256),by8 ((ki:Nat):Int),by8 (((a:Nat):Int) / 72057594037927936),by8 (((a:Nat):Int) / 281474976710656),by8 (((a:Nat):Int) / 1099511627776),by8 (((a:Nat):Int) / 4294967296),by8 (((a:Nat):Int) / 16777216),by8 (((a:Nat):Int) / 65536),by8 (((a:Nat):Int) / 256),by8 ((a:Nat):Int),by8 (((b:Nat):Int) / 72057594037927936),by8 (((b:Nat):Int) / 281474976710656),by8 (((b:Nat):Int) / 1099511627776),by8 (((b:Nat):Int) / 4294967296),by8 (((b:Nat):Int) / 16777216),by8 (((b:Nat):Int) / 65536),by8 (((b:Nat):Int) / 256),by8 ((b:Nat):Int),by8 (((c:Nat):Int) / 72057594037927936),by8 (((c:Nat):Int) / 281474976710656),by8 (((c:Nat):Int) / 1099511627776),by8 (((c:Nat):Int) / 4294967296),by8 (((c:Nat):Int) / 16777216),by8 (((c:Nat):Int) / 65536),by8 (((c:Nat):Int) / 256),by8 ((c:Nat):Int),by8 (((0:Nat):Int) / 72057594037927936),by8 (((0:Nat):Int) / 281474976710656),by8 (((0:Nat):Int) / 1099511627776),by8 (((0:Nat):Int) / 4294967296),by8 (((0:Nat):Int) / 16777216),by8 (((0:Nat):Int) / 65536),by8 (((0:Nat):Int) / 256),by8 ((0:Nat):Int),by8 (((0:Nat):Int) / 72057594037927936),by8 (((0:Nat):Int) / 281474976710656),by8 (((0:Nat):Int) / 1099511627776),by8 (((0:Nat):Int) / 4294967296),by8 (((0:Nat):Int) / 16777216),by8 (((0:Nat):Int) / 65536),by8 (((0:Nat):Int) / 256),by8 ((0:Nat):Int),by8 (((0:Nat):Int) / 72057594037927936),by8 (((0:Nat):Int) / 281474976710656),by8 (((0:Nat):Int) / 1099511627776),by8 (((0:Nat):Int) / 4294967296),by8 (((0:Nat):Int) / 16777216),by8 (((0:Nat):Int) / 65536),by8 (((0:Nat):Int) / 256),by8 ((0:Nat):Int)] ++ [128] ++ List.replicate 63 0 ++ [0,0,0,0,0,0,3,192]:=by
 rw [stb3]
 exact padL3 _ rfl
set_option maxHeartbeats 4000000 in
theorem stN3_eq {α:Type} (au nu ti ki a b c:Nat) (p0 p1 p2 p3 p4 p5 p6 p7:UInt32) (key:Int) (dig:ByteArray) (hau:au < 4294967296) (hnu:nu < 4294967296) (hti:ti < 4294967296) (hki:ki < 4294967296) (ha:a < 4294967296) (hb:b < 4294967296) (hc:c < 4294967296) (k:Nat→Nat→Nat→Nat→Nat→Nat→Nat→Nat→α) :
 ∃r:List UInt32,r.length=8∧sha (stB (⟨(au:Int),(nu:Int),(dgW [p0,p1,p2,p3,p4,p5,p6,p7]),(ti:Int),(ki:Int),(a:Int),(b:Int),(c:Int),[],[],⟨#[]⟩,key,dig⟩:St))=dgW r∧stN3 au nu p0.toNat p1.toNat p2.toNat p3.toNat p4.toNat p5.toNat p6.toNat p7.toNat ti ki a b c k=k (r.getD 0 0).toNat (r.getD 1 0).toNat (r.getD 2 0).toNat (r.getD 3 0).toNat (r.getD 4 0).toNat (r.getD 5 0).toNat (r.getD 6 0).toNat (r.getD 7 0).toNat:=by
 obtain⟨m,hm⟩:∃m,m=padded (stB (⟨(au:Int),(nu:Int),(dgW [p0,p1,p2,p3,p4,p5,p6,p7]),(ti:Int),(ki:Int),(a:Int),(b:Int),(c:Int),[],[],⟨#[]⟩,key,dig⟩:St)):=⟨_,rfl⟩
 have hp:=hm.trans (pad3 au nu ti ki a b c p0 p1 p2 p3 p4 p5 p6 p7 key dig)
 refine⟨blocks m 3,blocks_len m 3,?_,?_⟩
 · unfold sha;rw [←hm];rw [show m.length / 64=3 by rw [hp];simp only [List.length_append,List.length_replicate,List.length_cons,List.length_nil]];rfl
 have w0_0: (wordU ((m.drop (64 * 0)).take 64) 0).toNat=0:=by rw [hp];exact show(word4 (by8 (((au:Nat):Int) / 72057594037927936)) (by8 (((au:Nat):Int) / 281474976710656)) (by8 (((au:Nat):Int) / 1099511627776)) (by8 (((au:Nat):Int) / 4294967296))).toNat=_ from word4_hi au hau
 have w0_1: (wordU ((m.drop (64 * 0)).take 64) 1).toNat=au:=by rw [hp];exact show(word4 (by8 (((au:Nat):Int) / 16777216)) (by8 (((au:Nat):Int) / 65536)) (by8 (((au:Nat):Int) / 256)) (by8 ((au:Nat):Int))).toNat=_ from word4_int au hau
 have w0_2: (wordU ((m.drop (64 * 0)).take 64) 2).toNat=0:=by rw [hp];exact show(word4 (by8 (((nu:Nat):Int) / 72057594037927936)) (by8 (((nu:Nat):Int) / 281474976710656)) (by8 (((nu:Nat):Int) / 1099511627776)) (by8 (((nu:Nat):Int) / 4294967296))).toNat=_ from word4_hi nu hnu
 have w0_3: (wordU ((m.drop (64 * 0)).take 64) 3).toNat=nu:=by rw [hp];exact show(word4 (by8 (((nu:Nat):Int) / 16777216)) (by8 (((nu:Nat):Int) / 65536)) (by8 (((nu:Nat):Int) / 256)) (by8 ((nu:Nat):Int))).toNat=_ from word4_int nu hnu
 have w0_4: (wordU ((m.drop (64 * 0)).take 64) 4).toNat=0:=by rw [hp];exact show(word4 (by8 (((32:Nat):Int) / 72057594037927936)) (by8 (((32:Nat):Int) / 281474976710656)) (by8 (((32:Nat):Int) / 1099511627776)) (by8 (((32:Nat):Int) / 4294967296))).toNat=_ from word4_hi 32 (by omega)
 have w0_5: (wordU ((m.drop (64 * 0)).take 64) 5).toNat=32:=by rw [hp];exact show(word4 (by8 (((32:Nat):Int) / 16777216)) (by8 (((32:Nat):Int) / 65536)) (by8 (((32:Nat):Int) / 256)) (by8 ((32:Nat):Int))).toNat=_ from word4_int 32 (by omega)
 have w0_6: (wordU ((m.drop (64 * 0)).take 64) 6).toNat=p0.toNat:=by rw [hp];exact show(word4 ((p0 >>> 24).toUInt8) ((p0 >>> 16).toUInt8) ((p0 >>> 8).toUInt8) (p0.toUInt8)).toNat=_ from word4_bytes p0
 have w0_7: (wordU ((m.drop (64 * 0)).take 64) 7).toNat=p1.toNat:=by rw [hp];exact show(word4 ((p1 >>> 24).toUInt8) ((p1 >>> 16).toUInt8) ((p1 >>> 8).toUInt8) (p1.toUInt8)).toNat=_ from word4_bytes p1
 have w0_8: (wordU ((m.drop (64 * 0)).take 64) 8).toNat=p2.toNat:=by rw [hp];exact show(word4 ((p2 >>> 24).toUInt8) ((p2 >>> 16).toUInt8) ((p2 >>> 8).toUInt8) (p2.toUInt8)).toNat=_ from word4_bytes p2
 have w0_9: (wordU ((m.drop (64 * 0)).take 64) 9).toNat=p3.toNat:=by rw [hp];exact show(word4 ((p3 >>> 24).toUInt8) ((p3 >>> 16).toUInt8) ((p3 >>> 8).toUInt8) (p3.toUInt8)).toNat=_ from word4_bytes p3
 have w0_10: (wordU ((m.drop (64 * 0)).take 64) 10).toNat=p4.toNat:=by rw [hp];exact show(word4 ((p4 >>> 24).toUInt8) ((p4 >>> 16).toUInt8) ((p4 >>> 8).toUInt8) (p4.toUInt8)).toNat=_ from word4_bytes p4
 have w0_11: (wordU ((m.drop (64 * 0)).take 64) 11).toNat=p5.toNat:=by rw [hp];exact show(word4 ((p5 >>> 24).toUInt8) ((p5 >>> 16).toUInt8) ((p5 >>> 8).toUInt8) (p5.toUInt8)).toNat=_ from word4_bytes p5
 have w0_12: (wordU ((m.drop (64 * 0)).take 64) 12).toNat=p6.toNat:=by rw [hp];exact show(word4 ((p6 >>> 24).toUInt8) ((p6 >>> 16).toUInt8) ((p6 >>> 8).toUInt8) (p6.toUInt8)).toNat=_ from word4_bytes p6
 have w0_13: (wordU ((m.drop (64 * 0)).take 64) 13).toNat=p7.toNat:=by rw [hp];exact show(word4 ((p7 >>> 24).toUInt8) ((p7 >>> 16).toUInt8) ((p7 >>> 8).toUInt8) (p7.toUInt8)).toNat=_ from word4_bytes p7
 have w0_14: (wordU ((m.drop (64 * 0)).take 64) 14).toNat=0:=by rw [hp];exact show(word4 (by8 (((ti:Nat):Int) / 72057594037927936)) (by8 (((ti:Nat):Int) / 281474976710656)) (by8 (((ti:Nat):Int) / 1099511627776)) (by8 (((ti:Nat):Int) / 4294967296))).toNat=_ from word4_hi ti hti
 have w0_15: (wordU ((m.drop (64 * 0)).take 64) 15).toNat=ti:=by rw [hp];exact show(word4 (by8 (((ti:Nat):Int) / 16777216)) (by8 (((ti:Nat):Int) / 65536)) (by8 (((ti:Nat):Int) / 256)) (by8 ((ti:Nat):Int))).toNat=_ from word4_int ti hti
 have w1_0: (wordU ((m.drop (64 * 1)).take 64) 0).toNat=0:=by rw [hp];exact show(word4 (by8 (((ki:Nat):Int) / 72057594037927936)) (by8 (((ki:Nat):Int) / 281474976710656)) (by8 (((ki:Nat):Int) / 1099511627776)) (by8 (((ki:Nat):Int) / 4294967296))).toNat=_ from word4_hi ki hki
 have w1_1: (wordU ((m.drop (64 * 1)).take 64) 1).toNat=ki:=by rw [hp];exact show(word4 (by8 (((ki:Nat):Int) / 16777216)) (by8 (((ki:Nat):Int) / 65536)) (by8 (((ki:Nat):Int) / 256)) (by8 ((ki:Nat):Int))).toNat=_ from word4_int ki hki
 have w1_2: (wordU ((m.drop (64 * 1)).take 64) 2).toNat=0:=by rw [hp];exact show(word4 (by8 (((a:Nat):Int) / 72057594037927936)) (by8 (((a:Nat):Int) / 281474976710656)) (by8 (((a:Nat):Int) / 1099511627776)) (by8 (((a:Nat):Int) / 4294967296))).toNat=_ from word4_hi a ha
 have w1_3: (wordU ((m.drop (64 * 1)).take 64) 3).toNat=a:=by rw [hp];exact show(word4 (by8 (((a:Nat):Int) / 16777216)) (by8 (((a:Nat):Int) / 65536)) (by8 (((a:Nat):Int) / 256)) (by8 ((a:Nat):Int))).toNat=_ from word4_int a ha
 have w1_4: (wordU ((m.drop (64 * 1)).take 64) 4).toNat=0:=by rw [hp];exact show(word4 (by8 (((b:Nat):Int) / 72057594037927936)) (by8 (((b:Nat):Int) / 281474976710656)) (by8 (((b:Nat):Int) / 1099511627776)) (by8 (((b:Nat):Int) / 4294967296))).toNat=_ from word4_hi b hb
 have w1_5: (wordU ((m.drop (64 * 1)).take 64) 5).toNat=b:=by rw [hp];exact show(word4 (by8 (((b:Nat):Int) / 16777216)) (by8 (((b:Nat):Int) / 65536)) (by8 (((b:Nat):Int) / 256)) (by8 ((b:Nat):Int))).toNat=_ from word4_int b hb
 have w1_6: (wordU ((m.drop (64 * 1)).take 64) 6).toNat=0:=by rw [hp];exact show(word4 (by8 (((c:Nat):Int) / 72057594037927936)) (by8 (((c:Nat):Int) / 281474976710656)) (by8 (((c:Nat):Int) / 1099511627776)) (by8 (((c:Nat):Int) / 4294967296))).toNat=_ from word4_hi c hc
 have w1_7: (wordU ((m.drop (64 * 1)).take 64) 7).toNat=c:=by rw [hp];exact show(word4 (by8 (((c:Nat):Int) / 16777216)) (by8 (((c:Nat):Int) / 65536)) (by8 (((c:Nat):Int) / 256)) (by8 ((c:Nat):Int))).toNat=_ from word4_int c hc
 have w1_8: (wordU ((m.drop (64 * 1)).take 64) 8).toNat=0:=by rw [hp];exact show(word4 (by8 (((0:Nat):Int) / 72057594037927936)) (by8 (((0:Nat):Int) / 281474976710656)) (by8 (((0:Nat):Int) / 1099511627776)) (by8 (((0:Nat):Int) / 4294967296))).toNat=_ from word4_hi 0 (by omega)
 have w1_9: (wordU ((m.drop (64 * 1)).take 64) 9).toNat=0:=by rw [hp];exact show(word4 (by8 (((0:Nat):Int) / 16777216)) (by8 (((0:Nat):Int) / 65536)) (by8 (((0:Nat):Int) / 256)) (by8 ((0:Nat):Int))).toNat=_ from word4_int 0 (by omega)
 have w1_10: (wordU ((m.drop (64 * 1)).take 64) 10).toNat=0:=by rw [hp];exact show(word4 (by8 (((0:Nat):Int) / 72057594037927936)) (by8 (((0:Nat):Int) / 281474976710656)) (by8 (((0:Nat):Int) / 1099511627776)) (by8 (((0:Nat):Int) / 4294967296))).toNat=_ from word4_hi 0 (by omega)
 have w1_11: (wordU ((m.drop (64 * 1)).take 64) 11).toNat=0:=by rw [hp];exact show(word4 (by8 (((0:Nat):Int) / 16777216)) (by8 (((0:Nat):Int) / 65536)) (by8 (((0:Nat):Int) / 256)) (by8 ((0:Nat):Int))).toNat=_ from word4_int 0 (by omega)
 have w1_12: (wordU ((m.drop (64 * 1)).take 64) 12).toNat=0:=by rw [hp];exact show(word4 (by8 (((0:Nat):Int) / 72057594037927936)) (by8 (((0:Nat):Int) / 281474976710656)) (by8 (((0:Nat):Int) / 1099511627776)) (by8 (((0:Nat):Int) / 4294967296))).toNat=_ from word4_hi 0 (by omega)
 have w1_13: (wordU ((m.drop (64 * 1)).take 64) 13).toNat=0:=by rw [hp];exact show(word4 (by8 (((0:Nat):Int) / 16777216)) (by8 (((0:Nat):Int) / 65536)) (by8 (((0:Nat):Int) / 256)) (by8 ((0:Nat):Int))).toNat=_ from word4_int 0 (by omega)
 have w1_14: (wordU ((m.drop (64 * 1)).take 64) 14).toNat=2147483648:=by rw [hp];exact show(word4 (128) (0) (0) (0)).toNat=_ from rfl
 have w1_15: (wordU ((m.drop (64 * 1)).take 64) 15).toNat=0:=by rw [hp];exact show(word4 (0) (0) (0) (0)).toNat=_ from rfl
 have w2_0: (wordU ((m.drop (64 * 2)).take 64) 0).toNat=0:=by rw [hp];exact show(word4 (0) (0) (0) (0)).toNat=_ from rfl
 have w2_1: (wordU ((m.drop (64 * 2)).take 64) 1).toNat=0:=by rw [hp];exact show(word4 (0) (0) (0) (0)).toNat=_ from rfl
 have w2_2: (wordU ((m.drop (64 * 2)).take 64) 2).toNat=0:=by rw [hp];exact show(word4 (0) (0) (0) (0)).toNat=_ from rfl
 have w2_3: (wordU ((m.drop (64 * 2)).take 64) 3).toNat=0:=by rw [hp];exact show(word4 (0) (0) (0) (0)).toNat=_ from rfl
 have w2_4: (wordU ((m.drop (64 * 2)).take 64) 4).toNat=0:=by rw [hp];exact show(word4 (0) (0) (0) (0)).toNat=_ from rfl
 have w2_5: (wordU ((m.drop (64 * 2)).take 64) 5).toNat=0:=by rw [hp];exact show(word4 (0) (0) (0) (0)).toNat=_ from rfl
 have w2_6: (wordU ((m.drop (64 * 2)).take 64) 6).toNat=0:=by rw [hp];exact show(word4 (0) (0) (0) (0)).toNat=_ from rfl
 have w2_7: (wordU ((m.drop (64 * 2)).take 64) 7).toNat=0:=by rw [hp];exact show(word4 (0) (0) (0) (0)).toNat=_ from rfl
 have w2_8: (wordU ((m.drop (64 * 2)).take 64) 8).toNat=0:=by rw [hp];exact show(word4 (0) (0) (0) (0)).toNat=_ from rfl
 have w2_9: (wordU ((m.drop (64 * 2)).take 64) 9).toNat=0:=by rw [hp];exact show(word4 (0) (0) (0) (0)).toNat=_ from rfl
 have w2_10: (wordU ((m.drop (64 * 2)).take 64) 10).toNat=0:=by rw [hp];exact show(word4 (0) (0) (0) (0)).toNat=_ from rfl
 have w2_11: (wordU ((m.drop (64 * 2)).take 64) 11).toNat=0:=by rw [hp];exact show(word4 (0) (0) (0) (0)).toNat=_ from rfl
 have w2_12: (wordU ((m.drop (64 * 2)).take 64) 12).toNat=0:=by rw [hp];exact show(word4 (0) (0) (0) (0)).toNat=_ from rfl
 have w2_13: (wordU ((m.drop (64 * 2)).take 64) 13).toNat=0:=by rw [hp];exact show(word4 (0) (0) (0) (0)).toNat=_ from rfl
 have w2_14: (wordU ((m.drop (64 * 2)).take 64) 14).toNat=0:=by rw [hp];exact show(word4 (0) (0) (0) (0)).toNat=_ from rfl
 have w2_15: (wordU ((m.drop (64 * 2)).take 64) 15).toNat=960:=by rw [hp];exact show(word4 (0) (0) (3) (192)).toNat=_ from rfl
 have e0:=fun k=>blkN_eq (α:=α) k (blocks m 0) ((m.drop (64 * 0)).take 64)
 simp only [w0_0,w0_1,w0_2,w0_3,w0_4,w0_5,w0_6,w0_7,w0_8,w0_9,w0_10,w0_11,w0_12,w0_13,w0_14,w0_15] at e0
 have e1:=fun k=>blkN_eq (α:=α) k (blocks m 1) ((m.drop (64 * 1)).take 64)
 simp only [w1_0,w1_1,w1_2,w1_3,w1_4,w1_5,w1_6,w1_7,w1_8,w1_9,w1_10,w1_11,w1_12,w1_13,w1_14,w1_15] at e1
 have e2:=fun k=>blkN_eq (α:=α) k (blocks m 2) ((m.drop (64 * 2)).take 64)
 simp only [w2_0,w2_1,w2_2,w2_3,w2_4,w2_5,w2_6,w2_7,w2_8,w2_9,w2_10,w2_11,w2_12,w2_13,w2_14,w2_15] at e2
 unfold stN3
 rw [show blocks m 0=startU from rfl] at e0
 refine(e0 _).trans ?_
 refine(e1 _).trans ?_
 refine(e2 _).trans ?_
 rfl
end
def lk8 (a b c d e f g h:Nat):List Nat:=[a,b,c,d,e,f,g,h]
theorem back8 (r:List UInt32) (hr:r.length=8): (lk8 (r.getD 0 0).toNat (r.getD 1 0).toNat (r.getD 2 0).toNat (r.getD 3 0).toNat (r.getD 4 0).toNat (r.getD 5 0).toNat (r.getD 6 0).toNat (r.getD 7 0).toNat).map UInt32.ofNat=r:=by
 match r,hr with
 | [a0,a1,a2,a3,a4,a5,a6,a7],_=>simp [lk8]
theorem shaOf3 {au nu ti ki a b c:Nat} {p0 p1 p2 p3 p4 p5 p6 p7:UInt32} {key:Int} {dig:ByteArray} (h:au < 4294967296∧nu < 4294967296∧ti < 4294967296∧ki < 4294967296∧a < 4294967296∧b < 4294967296∧c < 4294967296) {ns:List Nat} (hn:stN3 au nu p0.toNat p1.toNat p2.toNat p3.toNat p4.toNat p5.toNat p6.toNat p7.toNat ti ki a b c lk8=ns) :
 sha (stB ⟨(au:Int),(nu:Int),dgW [p0,p1,p2,p3,p4,p5,p6,p7],(ti:Int),(ki:Int),(a:Int),(b:Int),(c:Int),[],[],⟨#[]⟩,key,dig⟩)=dgW (ns.map UInt32.ofNat):=by
 obtain⟨h1,h2,h3,h4,h5,h6,h7⟩:=h
 obtain⟨r,hr,e1,e2⟩:=stN3_eq au nu ti ki a b c p0 p1 p2 p3 p4 p5 p6 p7 key dig h1 h2 h3 h4 h5 h6 h7 lk8
 rw [e1,←hn,e2,back8 r hr]
theorem dgW_head {x y:UInt32} {a b:List UInt32} (h:dgW (x :: a)=dgW (y :: b)):x=y:=by
 have h1:outTo (x :: a) 8=outTo (y :: b) 8:=congrArg strL h
 unfold outTo at h1
 rw [List.take_succ_cons,List.take_succ_cons,List.flatMap_cons,List.flatMap_cons] at h1
 unfold bytesU at h1
 simp only [List.cons_append,List.nil_append,List.cons.injEq] at h1
 obtain⟨e1,e2,e3,e4,_⟩:=h1
 have h2:=word4_bytes x
 rw [e1,e2,e3,e4,word4_bytes y] at h2
 exact UInt32.toNat_inj.1 h2.symm
theorem dgW_size (h:List UInt32) (hl:h.length=8): (dgW h).size=32:=by
 unfold dgW
 rw [strOf_size,outTo_len _ _ (by omega)]
theorem plain_check {au nu:Nat} {p:ByteArray} {ti ki a:Nat} {key:Int} {d:ByteArray} (ha:au < 64) (hi:nu < 200) (h0:nu=0→p= ⟨#[]⟩) (h1:0 < nu→p.size=32) (ht:ti≤2147483648) (hk:10≤ki∧ki≤31) (hA:a≤1000) :
 checkI ⟨(au:Int),(nu:Int),p,(ti:Int),(ki:Int),(a:Int),0,0,[],[],⟨#[]⟩,key,d⟩=0:=by
 have e1:keyB (au:Int)=true:=keyB_iff.2 (by omega)
 have e2:inB (nu:Int) 199=true:=inB_iff.2 (by omega)
 have e4:inB (ti:Int) 2147483648=true:=inB_iff.2 (by omega)
 have e5:inB (a:Int) M40=true:=inB_iff.2 (by unfold M40;omega)
 have e6:kindB ⟨(au:Int),(nu:Int),p,(ti:Int),(ki:Int),(a:Int),0,0,[],[],⟨#[]⟩,key,d⟩=true:=by
  unfold kindB
  simp only
  rw [if_neg (by omega),if_neg (by omega),if_neg (by omega)]
 have e3 : ¬(((nu:Int)=0∧p≠⟨#[]⟩)∨((0:Int) < (nu:Int)∧p.size≠32)∨pinsB []=false):=by
  rintro(⟨h,h'⟩ | ⟨h,h'⟩ | h)
  · exact h' (h0 (by omega))
  · exact h' (h1 (by omega))
  · cases h
 unfold checkI
 simp only
 rw [if_neg (by rw [e1];simp),if_neg (by omega),if_neg (by rw [e4];simp),if_neg (by unfold numB;simp only;rw [e2,e5,e6];decide),if_neg (by decide),if_neg e3,if_neg (by omega)]
def HalfS (P:Nat→Prop) (w0 w:World) (base g k:Nat) (xs ys:List (St×Sv×Sv)):Prop :=
 (∀j x,j < k→ys[j]? =some x→Lies (fun b=>base≤b∧b≠g) w x)∧(∀j,k≤j→ys[j]? =xs[j]?)∧(∀x∈xs,Lies P w0 x)
end Go.Proofs.YtflhidfclfkjlaaGreat
