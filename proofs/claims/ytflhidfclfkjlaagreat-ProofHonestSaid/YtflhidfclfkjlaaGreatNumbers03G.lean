/- ref03.numbers: a contract, no statement of the seat. -/
import Derived.Test.YtflhidfclfkjlaaGreatMg06
namespace Go.Proofs.YtflhidfclfkjlaaGreat
open Go.RowKit Go.Sort
set_option maxHeartbeats 8000000 in
set_option maxRecDepth 100000 in
theorem numbers_any (s:St) (lo po:Option Addr) (ln lc pn pc:Nat) (w:World) (hl:Ints w (.slice lo ln lc) s.list) (hm:s.list.length≤9223372036854775807) :
 Calls Tryz.prog 77 #[.agg #[.int .i64 s.author,.int .i64 s.number,.string s.prev,.int .i64 s.time,.int .i64 s.kind,.int .i64 s.a,.int .i64 s.b,.int .i64 s.c,.slice lo ln lc,.slice po pn pc,.string s.body,.int .i64 s.key,.string s.dig]] w fun e w'=>e=.returned (.bool (numB s))∧Ex w.heap.size none w w':=by
 obtain⟨_,_,e,hx⟩:=hl
 cases e
 have HL:=Lib.hid hx
 clear hx
 cases h0:inB s.number 199 with
 | false=>
   have HK:Hid (numB s=false):=(show _=_ by simp [numB,M40,h0])
   go_enter Tryz.func77,Tryz.ntmps77
   go_wp2_with (first | (go_at_call 76;refine(in03_any _ _ _).mono ?_;rintro e w' ⟨rfl,rfl⟩) | (go_at_call 75;refine(key03_any _ _).mono ?_;rintro e w' ⟨rfl,rfl⟩))
   go_ret
   exact⟨by rw [HK.out];rfl,Ex.new _ _⟩
 | true=>
   cases h1:inB s.a 1099511627776 with
   | false=>
     have HK:Hid (numB s=false):=(show _=_ by simp [numB,M40,h0,h1])
     go_enter Tryz.func77,Tryz.ntmps77
     go_wp2_with (first | (go_at_call 76;refine(in03_any _ _ _).mono ?_;rintro e w' ⟨rfl,rfl⟩) | (go_at_call 75;refine(key03_any _ _).mono ?_;rintro e w' ⟨rfl,rfl⟩))
     go_ret
     exact⟨by rw [HK.out];rfl,Ex.new _ _⟩
   | true=>
     cases h2:inB s.b 1099511627776 with
     | false=>
       have HK:Hid (numB s=false):=(show _=_ by simp [numB,M40,h0,h1,h2])
       go_enter Tryz.func77,Tryz.ntmps77
       go_wp2_with (first | (go_at_call 76;refine(in03_any _ _ _).mono ?_;rintro e w' ⟨rfl,rfl⟩) | (go_at_call 75;refine(key03_any _ _).mono ?_;rintro e w' ⟨rfl,rfl⟩))
       go_ret
       exact⟨by rw [HK.out];rfl,Ex.new _ _⟩
     | true=>
       cases h3:inB s.c 1099511627776 with
       | false=>
         have HK:Hid (numB s=false):=(show _=_ by simp [numB,M40,h0,h1,h2,h3])
         go_enter Tryz.func77,Tryz.ntmps77
         go_wp2_with (first | (go_at_call 76;refine(in03_any _ _ _).mono ?_;rintro e w' ⟨rfl,rfl⟩) | (go_at_call 75;refine(key03_any _ _).mono ?_;rintro e w' ⟨rfl,rfl⟩))
         go_ret
         exact⟨by rw [HK.out];rfl,Ex.new _ _⟩
       | true=>
         go_enter Tryz.func77,Tryz.ntmps77
         go_wp2_with (first | (go_at_call 76;refine(in03_any _ _ _).mono ?_;rintro e w' ⟨rfl,rfl⟩) | (go_at_call 75;refine(key03_any _ _).mono ?_;rintro e w' ⟨rfl,rfl⟩))
         go_loop [3] (fun i=>∃k:Nat,k≤s.list.length∧i=.int .i64 k∧Hid (∀j x,j < k→s.list[j]? =some x→inB x 1099511627776=true)) (fun i=>s.list.length - (intOf i).toNat)
         case atStart=>exact⟨0,Nat.zero_le _,rfl,fun j x h=>by omega⟩
         case round=>
          obtain⟨k,hk,rfl,HT⟩:=hrel
          by_cases hlt:k < s.list.length
          · obtain⟨b,off,y,rfl,hck,HY⟩:=HL.out.get k hlt
            have hbl:=World.block_lt_of_cell? w _ hck
            simp only at hbl
            cases hy:inB y 1099511627776 with
            | false=>
              have HK:Hid (numB s=false):=(show _=_ by
               have:s.list.all (fun x=>inB x 1099511627776)=false:=by
                rw [List.all_eq_false]
                refine⟨y,?_,by simp [hy]⟩
                have h:=HY.out
                rw [List.getD_eq_getElem?_getD,List.getElem?_eq_getElem hlt] at h
                simp at h;rw [←h];exact List.getElem_mem _
               simp [numB,M40,this])
              go_wp2_with (first | (go_at_call 76;refine(in03_any _ _ _).mono ?_;rintro e w' ⟨rfl,rfl⟩) | (go_at_call 75;refine(key03_any _ _).mono ?_;rintro e w' ⟨rfl,rfl⟩))
              go_ret
              exact⟨by rw [HK.out];rfl,Ex.new _ _⟩
            | true=>
              go_wp2_with (first | (go_at_call 76;refine(in03_any _ _ _).mono ?_;rintro e w' ⟨rfl,rfl⟩) | (go_at_call 75;refine(key03_any _ _).mono ?_;rintro e w' ⟨rfl,rfl⟩))
              go_round
              case rel=>
               refine⟨k+1,by omega,by go_num,fun j x hj hx=>?_⟩
               by_cases e:j=k
               · subst e
                 have h:=HY.out
                 rw [List.getD_eq_getElem?_getD,hx] at h
                 simp at h;rw [h];exact hy
               · exact HT.out j x (by omega) hx
              case measure=>simp [intOf];omega
          · have HALL:Hid (s.list.all (fun x=>inB x 1099511627776)=true):=(show _=_ by
             rw [List.all_eq_true]
             intro x hx
             obtain⟨j,hj⟩:=List.mem_iff_getElem?.1 hx
             exact HT.out j x (by have:=(List.getElem?_eq_some_iff.1 hj).1;omega) hj)
            by_cases k1:s.kind=1
            · have k1e: (s.kind == 1)=true:=by simpa using k1
              have K1:=Lib.hid k1
              clear k1
              cases q1:keyB s.a with
              | false=>
                have HK:Hid (numB s=false):=(show _=_ by simp [numB,M40,HALL.out,h0,h1,h2,h3,kindB,K1.out,q1])
                go_wp2_with (first | (go_at_call 76;refine(in03_any _ _ _).mono ?_;rintro e w' ⟨rfl,rfl⟩) | (go_at_call 75;refine(key03_any _ _).mono ?_;rintro e w' ⟨rfl,rfl⟩))
                go_ret
                exact⟨by rw [HK.out];rfl,Ex.new _ _⟩
              | true=>
                by_cases q2:s.a≠s.author
                · have q2e: (s.a != s.author)=true:=by simpa using q2
                  have Hq2:=Lib.hid q2
                  clear q2
                  by_cases q3:1≤s.b
                  · have q3e:decide (1≤s.b)=true:=by simpa using q3
                    have Hq3:=Lib.hid q3
                    clear q3
                    by_cases q4:s.b≤3
                    · have q4e:decide (s.b≤3)=true:=by simpa using q4
                      have Hq4:=Lib.hid q4
                      clear q4
                      by_cases q5:s.time≤s.c
                      · have q5e:decide (s.time≤s.c)=true:=by simpa using q5
                        have Hq5:=Lib.hid q5
                        clear q5
                        by_cases q6:s.c≤2147483648
                        · have q6e:decide (s.c≤2147483648)=true:=by simpa using q6
                          have Hq6:=Lib.hid q6
                          clear q6
                          have HK:Hid (numB s=true):=(show _=_ by simp [numB,M40,HALL.out,h0,h1,h2,h3,kindB,K1.out,q1,Hq2.out,Hq3.out,Hq4.out,Hq5.out,Hq6.out])
                          go_wp2_with (first | (go_at_call 76;refine(in03_any _ _ _).mono ?_;rintro e w' ⟨rfl,rfl⟩) | (go_at_call 75;refine(key03_any _ _).mono ?_;rintro e w' ⟨rfl,rfl⟩))
                          go_ret
                          exact⟨by rw [HK.out];rfl,Ex.new _ _⟩
                        · have q6d:decide (s.c≤2147483648)=false:=by simpa using q6
                          have Hq6:=Lib.hid q6
                          clear q6
                          have HK:Hid (numB s=false):=(show _=_ by simp [numB,M40,HALL.out,h0,h1,h2,h3,kindB,K1.out,q1,Hq2.out,Hq3.out,Hq4.out,Hq5.out,Hq6.out])
                          go_wp2_with (first | (go_at_call 76;refine(in03_any _ _ _).mono ?_;rintro e w' ⟨rfl,rfl⟩) | (go_at_call 75;refine(key03_any _ _).mono ?_;rintro e w' ⟨rfl,rfl⟩))
                          go_ret
                          exact⟨by rw [HK.out];rfl,Ex.new _ _⟩
                      · have q5d:decide (s.time≤s.c)=false:=by simpa using q5
                        have Hq5:=Lib.hid q5
                        clear q5
                        have HK:Hid (numB s=false):=(show _=_ by simp [numB,M40,HALL.out,h0,h1,h2,h3,kindB,K1.out,q1,Hq2.out,Hq3.out,Hq4.out,Hq5.out])
                        go_wp2_with (first | (go_at_call 76;refine(in03_any _ _ _).mono ?_;rintro e w' ⟨rfl,rfl⟩) | (go_at_call 75;refine(key03_any _ _).mono ?_;rintro e w' ⟨rfl,rfl⟩))
                        go_ret
                        exact⟨by rw [HK.out];rfl,Ex.new _ _⟩
                    · have q4d:decide (s.b≤3)=false:=by simpa using q4
                      have Hq4:=Lib.hid q4
                      clear q4
                      have HK:Hid (numB s=false):=(show _=_ by simp [numB,M40,HALL.out,h0,h1,h2,h3,kindB,K1.out,q1,Hq2.out,Hq3.out,Hq4.out])
                      go_wp2_with (first | (go_at_call 76;refine(in03_any _ _ _).mono ?_;rintro e w' ⟨rfl,rfl⟩) | (go_at_call 75;refine(key03_any _ _).mono ?_;rintro e w' ⟨rfl,rfl⟩))
                      go_ret
                      exact⟨by rw [HK.out];rfl,Ex.new _ _⟩
                  · have q3d:decide (1≤s.b)=false:=by simpa using q3
                    have Hq3:=Lib.hid q3
                    clear q3
                    have HK:Hid (numB s=false):=(show _=_ by simp [numB,M40,HALL.out,h0,h1,h2,h3,kindB,K1.out,q1,Hq2.out,Hq3.out])
                    go_wp2_with (first | (go_at_call 76;refine(in03_any _ _ _).mono ?_;rintro e w' ⟨rfl,rfl⟩) | (go_at_call 75;refine(key03_any _ _).mono ?_;rintro e w' ⟨rfl,rfl⟩))
                    go_ret
                    exact⟨by rw [HK.out];rfl,Ex.new _ _⟩
                · have q2d: (s.a != s.author)=false:=by simpa using q2
                  have Hq2:=Lib.hid q2
                  clear q2
                  have HK:Hid (numB s=false):=(show _=_ by simp [numB,M40,HALL.out,h0,h1,h2,h3,kindB,K1.out,q1,Hq2.out])
                  go_wp2_with (first | (go_at_call 76;refine(in03_any _ _ _).mono ?_;rintro e w' ⟨rfl,rfl⟩) | (go_at_call 75;refine(key03_any _ _).mono ?_;rintro e w' ⟨rfl,rfl⟩))
                  go_ret
                  exact⟨by rw [HK.out];rfl,Ex.new _ _⟩
            · have k1e: (s.kind == 1)=false:=by simpa using k1
              have K1:=Lib.hid k1
              clear k1
              by_cases k2:s.kind=2
              · have k2e: (s.kind == 2)=true:=by simpa using k2
                have K2:=Lib.hid k2
                clear k2
                cases q1:inB s.a 199 with
                | false=>
                  have HK:Hid (numB s=false):=(show _=_ by simp [numB,M40,HALL.out,h0,h1,h2,h3,kindB,K2.out,q1])
                  go_wp2_with (first | (go_at_call 76;refine(in03_any _ _ _).mono ?_;rintro e w' ⟨rfl,rfl⟩) | (go_at_call 75;refine(key03_any _ _).mono ?_;rintro e w' ⟨rfl,rfl⟩))
                  go_ret
                  exact⟨by rw [HK.out];rfl,Ex.new _ _⟩
                | true=>
                  by_cases q2:s.b=0
                  · have q2e: (s.b == 0)=true:=by simpa using q2
                    have Hq2:=Lib.hid q2
                    clear q2
                    by_cases q3:s.c=0
                    · have q3e: (s.c == 0)=true:=by simpa using q3
                      have Hq3:=Lib.hid q3
                      clear q3
                      have HK:Hid (numB s=true):=(show _=_ by simp [numB,M40,HALL.out,h0,h1,kindB,show inB 0 1099511627776=true by decide,K2.out,q1,Hq2.out,Hq3.out])
                      go_wp2_with (first | (go_at_call 76;refine(in03_any _ _ _).mono ?_;rintro e w' ⟨rfl,rfl⟩) | (go_at_call 75;refine(key03_any _ _).mono ?_;rintro e w' ⟨rfl,rfl⟩))
                      go_ret
                      exact⟨by rw [HK.out];rfl,Ex.new _ _⟩
                    · have q3d: (s.c == 0)=false:=by simpa using q3
                      have Hq3:=Lib.hid q3
                      clear q3
                      have HK:Hid (numB s=false):=(show _=_ by simp [numB,M40,HALL.out,h0,h1,h3,kindB,show inB 0 1099511627776=true by decide,K2.out,q1,Hq2.out,Hq3.out])
                      go_wp2_with (first | (go_at_call 76;refine(in03_any _ _ _).mono ?_;rintro e w' ⟨rfl,rfl⟩) | (go_at_call 75;refine(key03_any _ _).mono ?_;rintro e w' ⟨rfl,rfl⟩))
                      go_ret
                      exact⟨by rw [HK.out];rfl,Ex.new _ _⟩
                  · have q2d: (s.b == 0)=false:=by simpa using q2
                    have Hq2:=Lib.hid q2
                    clear q2
                    have HK:Hid (numB s=false):=(show _=_ by simp [numB,M40,HALL.out,h0,h1,h2,h3,kindB,K2.out,q1,Hq2.out])
                    go_wp2_with (first | (go_at_call 76;refine(in03_any _ _ _).mono ?_;rintro e w' ⟨rfl,rfl⟩) | (go_at_call 75;refine(key03_any _ _).mono ?_;rintro e w' ⟨rfl,rfl⟩))
                    go_ret
                    exact⟨by rw [HK.out];rfl,Ex.new _ _⟩
              · have k2e: (s.kind == 2)=false:=by simpa using k2
                have K2:=Lib.hid k2
                clear k2
                by_cases k3:s.kind=3
                · have k3e: (s.kind == 3)=true:=by simpa using k3
                  have K3:=Lib.hid k3
                  clear k3
                  by_cases q1:s.a=0
                  · have q1e: (s.a == 0)=true:=by simpa using q1
                    have Hq1:=Lib.hid q1
                    clear q1
                    by_cases q2:s.b=0
                    · have q2e: (s.b == 0)=true:=by simpa using q2
                      have Hq2:=Lib.hid q2
                      clear q2
                      by_cases q3:s.c=0
                      · have q3e: (s.c == 0)=true:=by simpa using q3
                        have Hq3:=Lib.hid q3
                        clear q3
                        have HK:Hid (numB s=true):=(show _=_ by simp [numB,M40,HALL.out,h0,kindB,show inB 0 1099511627776=true by decide,K3.out,Hq1.out,Hq2.out,Hq3.out])
                        go_wp2_with (first | (go_at_call 76;refine(in03_any _ _ _).mono ?_;rintro e w' ⟨rfl,rfl⟩) | (go_at_call 75;refine(key03_any _ _).mono ?_;rintro e w' ⟨rfl,rfl⟩))
                        go_ret
                        exact⟨by rw [HK.out];rfl,Ex.new _ _⟩
                      · have q3d: (s.c == 0)=false:=by simpa using q3
                        have Hq3:=Lib.hid q3
                        clear q3
                        have HK:Hid (numB s=false):=(show _=_ by simp [numB,M40,HALL.out,h0,h3,kindB,show inB 0 1099511627776=true by decide,K3.out,Hq1.out,Hq2.out,Hq3.out])
                        go_wp2_with (first | (go_at_call 76;refine(in03_any _ _ _).mono ?_;rintro e w' ⟨rfl,rfl⟩) | (go_at_call 75;refine(key03_any _ _).mono ?_;rintro e w' ⟨rfl,rfl⟩))
                        go_ret
                        exact⟨by rw [HK.out];rfl,Ex.new _ _⟩
                    · have q2d: (s.b == 0)=false:=by simpa using q2
                      have Hq2:=Lib.hid q2
                      clear q2
                      have HK:Hid (numB s=false):=(show _=_ by simp [numB,M40,HALL.out,h0,h2,h3,kindB,show inB 0 1099511627776=true by decide,K3.out,Hq1.out,Hq2.out])
                      go_wp2_with (first | (go_at_call 76;refine(in03_any _ _ _).mono ?_;rintro e w' ⟨rfl,rfl⟩) | (go_at_call 75;refine(key03_any _ _).mono ?_;rintro e w' ⟨rfl,rfl⟩))
                      go_ret
                      exact⟨by rw [HK.out];rfl,Ex.new _ _⟩
                  · have q1d: (s.a == 0)=false:=by simpa using q1
                    have Hq1:=Lib.hid q1
                    clear q1
                    have HK:Hid (numB s=false):=(show _=_ by simp [numB,M40,HALL.out,h0,h1,h2,h3,kindB,K3.out,Hq1.out])
                    go_wp2_with (first | (go_at_call 76;refine(in03_any _ _ _).mono ?_;rintro e w' ⟨rfl,rfl⟩) | (go_at_call 75;refine(key03_any _ _).mono ?_;rintro e w' ⟨rfl,rfl⟩))
                    go_ret
                    exact⟨by rw [HK.out];rfl,Ex.new _ _⟩
                · have k3e: (s.kind == 3)=false:=by simpa using k3
                  have K3:=Lib.hid k3
                  clear k3
                  have HK:Hid (numB s=true):=(show _=_ by simp [numB,M40,HALL.out,h0,h1,h2,h3,kindB,K1.out,K2.out,K3.out])
                  go_wp2_with (first | (go_at_call 76;refine(in03_any _ _ _).mono ?_;rintro e w' ⟨rfl,rfl⟩) | (go_at_call 75;refine(key03_any _ _).mono ?_;rintro e w' ⟨rfl,rfl⟩))
                  go_ret
                  exact⟨by rw [HK.out];rfl,Ex.new _ _⟩
end Go.Proofs.YtflhidfclfkjlaaGreat
