/- The walk of the law PointsMatchReference. -/

